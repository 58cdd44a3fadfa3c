/- The interpreter once more, word for word the same by what it answers, but laid so that the kernel carries it with few steps.
Triples over the interpreter's states,up to the names of objects: what a piece of code does from a state,loops by a relation and a measure.
The interpreter in the form of a tree: it carries on with values that are not known,and answers by tests on them (a test's false side is none where nothing is said). What it answers,the interpreter answers. -/
import Derived.Test.YtaakhjmfojoodaaGreatDoorVaiE
section
namespace Go.Vai
noncomputable section
def ob{α β:Type}(x:Option α)(f:α→Option β):Option β:=Option.rec (motive:=fun _=>Option β) none f x
theorem Wl{α β:Type}(v:α)(f:α→Option β):ob (some v) f=f v:=rfl
def bc{α:Type}(b:Bool)(x y:α):α:=Bool.rec (motive:=fun _=>α) y x b
theorem Ku{α:Type}(b:Bool)(x y:α):bc b x y=bif b then x else y:=by cases b <;> rfl
def Zp0(v:AV):(IntKind→Int→Option AV)→Option AV→Option AV:=
 AV.rec (motive_1:=fun _=>(IntKind→Int→Option AV)→Option AV→Option AV) (motive_2:=fun _=>Unit) (fun _ _ d=>d) (fun x0 x1 f _=>f x0 x1) (fun _ _ d=>d) (fun _ d=>d) (fun _ _ _ d=>d) (fun _ d=>d) (fun _ _ _ _ _ d=>d) (fun _ d=>d) (fun _ d=>d) (fun _ _ _ _ _ _ d=>d) (fun _ _ d=>d) (fun _ d=>d) (fun _ _ _ _ d=>d) (fun _ _ _ d=>d) (fun _ _ _ d=>d) (fun _ d=>d) (fun _ _ d=>d) (fun _ _ d=>d) () (fun _ _ _ _=>()) v
def Y1z(v:AV):(List UInt8→Option AV)→Option AV→Option AV:=
 AV.rec (motive_1:=fun _=>(List UInt8→Option AV)→Option AV→Option AV) (motive_2:=fun _=>Unit) (fun _ _ d=>d) (fun _ _ _ d=>d) (fun x0 f _=>f x0) (fun _ d=>d) (fun _ _ _ d=>d) (fun _ d=>d) (fun _ _ _ _ _ d=>d) (fun _ d=>d) (fun _ d=>d) (fun _ _ _ _ _ _ d=>d) (fun _ _ d=>d) (fun _ d=>d) (fun _ _ _ _ d=>d) (fun _ _ _ d=>d) (fun _ _ _ d=>d) (fun _ d=>d) (fun _ _ d=>d) (fun _ _ d=>d) () (fun _ _ _ _=>()) v
def Z6b(v:AV):(Nat→Nat→Option AV)→Option AV→Option AV:=
 AV.rec (motive_1:=fun _=>(Nat→Nat→Option AV)→Option AV→Option AV) (motive_2:=fun _=>Unit) (fun _ _ d=>d) (fun _ _ _ d=>d) (fun _ _ d=>d) (fun _ d=>d) (fun x0 x1 f _=>f x0 x1) (fun _ d=>d) (fun _ _ _ _ _ d=>d) (fun _ d=>d) (fun _ d=>d) (fun _ _ _ _ _ _ d=>d) (fun _ _ d=>d) (fun _ d=>d) (fun _ _ _ _ d=>d) (fun _ _ _ d=>d) (fun _ _ _ d=>d) (fun _ d=>d) (fun _ _ d=>d) (fun _ _ d=>d) () (fun _ _ _ _=>()) v
def Y6p(v:AV):(Nat→Nat→Nat→Option Nat→Option AV)→Option AV→Option AV:=
 AV.rec (motive_1:=fun _=>(Nat→Nat→Nat→Option Nat→Option AV)→Option AV→Option AV) (motive_2:=fun _=>Unit) (fun _ _ d=>d) (fun _ _ _ d=>d) (fun _ _ d=>d) (fun _ d=>d) (fun _ _ _ d=>d) (fun _ d=>d) (fun x0 x1 x2 x3 f _=>f x0 x1 x2 x3) (fun _ d=>d) (fun _ d=>d) (fun _ _ _ _ _ _ d=>d) (fun _ _ d=>d) (fun _ d=>d) (fun _ _ _ _ d=>d) (fun _ _ _ d=>d) (fun _ _ _ d=>d) (fun _ d=>d) (fun _ _ d=>d) (fun _ _ d=>d) () (fun _ _ _ _=>()) v
def Y2h(v:AV):(Nat→Nat→Option AHeap)→Option AHeap→Option AHeap:=
 AV.rec (motive_1:=fun _=>(Nat→Nat→Option AHeap)→Option AHeap→Option AHeap) (motive_2:=fun _=>Unit) (fun _ _ d=>d) (fun _ _ _ d=>d) (fun _ _ d=>d) (fun _ d=>d) (fun x0 x1 f _=>f x0 x1) (fun _ d=>d) (fun _ _ _ _ _ d=>d) (fun _ d=>d) (fun _ d=>d) (fun _ _ _ _ _ _ d=>d) (fun _ _ d=>d) (fun _ d=>d) (fun _ _ _ _ d=>d) (fun _ _ _ d=>d) (fun _ _ _ d=>d) (fun _ d=>d) (fun _ _ d=>d) (fun _ _ d=>d) () (fun _ _ _ _=>()) v
def Yxm(v:AV):(Bool→Option ARes)→Option ARes→Option ARes:=
 AV.rec (motive_1:=fun _=>(Bool→Option ARes)→Option ARes→Option ARes) (motive_2:=fun _=>Unit) (fun x0 f _=>f x0) (fun _ _ _ d=>d) (fun _ _ d=>d) (fun _ d=>d) (fun _ _ _ d=>d) (fun _ d=>d) (fun _ _ _ _ _ d=>d) (fun _ d=>d) (fun _ d=>d) (fun _ _ _ _ _ _ d=>d) (fun _ _ d=>d) (fun _ d=>d) (fun _ _ _ _ d=>d) (fun _ _ _ d=>d) (fun _ _ _ d=>d) (fun _ d=>d) (fun _ _ d=>d) (fun _ _ d=>d) () (fun _ _ _ _=>()) v
def Y3e(v:AV):(List AV→Option ARes)→Option ARes→Option ARes:=
 AV.rec (motive_1:=fun _=>(List AV→Option ARes)→Option ARes→Option ARes) (motive_2:=fun _=>Unit) (fun _ _ d=>d) (fun _ _ _ d=>d) (fun _ _ d=>d) (fun _ d=>d) (fun _ _ _ d=>d) (fun _ d=>d) (fun _ _ _ _ _ d=>d) (fun _ d=>d) (fun _ d=>d) (fun _ _ _ _ _ _ d=>d) (fun _ _ d=>d) (fun _ d=>d) (fun _ _ _ _ d=>d) (fun _ _ _ d=>d) (fun x0 _ f _=>f x0) (fun _ d=>d) (fun _ _ d=>d) (fun _ _ d=>d) () (fun _ _ _ _=>()) v
def Yxs(v:AV):(Bool→Option TRes)→Option TRes→Option TRes:=
 AV.rec (motive_1:=fun _=>(Bool→Option TRes)→Option TRes→Option TRes) (motive_2:=fun _=>Unit) (fun x0 f _=>f x0) (fun _ _ _ d=>d) (fun _ _ d=>d) (fun _ d=>d) (fun _ _ _ d=>d) (fun _ d=>d) (fun _ _ _ _ _ d=>d) (fun _ d=>d) (fun _ d=>d) (fun _ _ _ _ _ _ d=>d) (fun _ _ d=>d) (fun _ d=>d) (fun _ _ _ _ d=>d) (fun _ _ _ d=>d) (fun _ _ _ d=>d) (fun _ d=>d) (fun _ _ d=>d) (fun _ _ d=>d) () (fun _ _ _ _=>()) v
def Ywo(v:AV):(Bool→Option Bool)→Option Bool→Option Bool:=
 AV.rec (motive_1:=fun _=>(Bool→Option Bool)→Option Bool→Option Bool) (motive_2:=fun _=>Unit) (fun x0 f _=>f x0) (fun _ _ _ d=>d) (fun _ _ d=>d) (fun _ d=>d) (fun _ _ _ d=>d) (fun _ d=>d) (fun _ _ _ _ _ d=>d) (fun _ d=>d) (fun _ d=>d) (fun _ _ _ _ _ _ d=>d) (fun _ _ d=>d) (fun _ d=>d) (fun _ _ _ _ d=>d) (fun _ _ _ d=>d) (fun _ _ _ d=>d) (fun _ d=>d) (fun _ _ d=>d) (fun _ _ d=>d) () (fun _ _ _ _=>()) v
def Y5e(v:AV):(List AV→Option Bool)→Option Bool→Option Bool:=
 AV.rec (motive_1:=fun _=>(List AV→Option Bool)→Option Bool→Option Bool) (motive_2:=fun _=>Unit) (fun _ _ d=>d) (fun _ _ _ d=>d) (fun _ _ d=>d) (fun _ d=>d) (fun _ _ _ d=>d) (fun _ d=>d) (fun _ _ _ _ _ d=>d) (fun _ d=>d) (fun _ d=>d) (fun _ _ _ _ _ _ d=>d) (fun _ _ d=>d) (fun _ d=>d) (fun _ _ _ _ d=>d) (fun _ _ _ d=>d) (fun x0 _ f _=>f x0) (fun _ d=>d) (fun _ _ d=>d) (fun _ _ d=>d) () (fun _ _ _ _=>()) v
def Y96(v:AV):(FuncId→List AV→List AV→Option ARes)→Option ARes→Option ARes:=
 AV.rec (motive_1:=fun _=>(FuncId→List AV→List AV→Option ARes)→Option ARes→Option ARes) (motive_2:=fun _=>Unit) (fun _ _ d=>d) (fun _ _ _ d=>d) (fun _ _ d=>d) (fun _ d=>d) (fun _ _ _ d=>d) (fun _ d=>d) (fun _ _ _ _ _ d=>d) (fun _ d=>d) (fun _ d=>d) (fun x0 x1 x2 _ _ f _=>f x0 x1 x2) (fun _ _ d=>d) (fun _ d=>d) (fun _ _ _ _ d=>d) (fun _ _ _ d=>d) (fun _ _ _ d=>d) (fun _ d=>d) (fun _ _ d=>d) (fun _ _ d=>d) () (fun _ _ _ _=>()) v
def Y2y(v:AV):(Nat→Option ARes)→Option ARes→Option ARes:=
 AV.rec (motive_1:=fun _=>(Nat→Option ARes)→Option ARes→Option ARes) (motive_2:=fun _=>Unit) (fun _ _ d=>d) (fun _ _ _ d=>d) (fun _ _ d=>d) (fun _ d=>d) (fun _ _ _ d=>d) (fun _ d=>d) (fun _ _ _ _ _ d=>d) (fun _ d=>d) (fun _ d=>d) (fun _ _ _ _ _ _ d=>d) (fun x0 f _=>f x0) (fun _ d=>d) (fun _ _ _ _ d=>d) (fun _ _ _ d=>d) (fun _ _ _ d=>d) (fun _ d=>d) (fun _ _ d=>d) (fun _ _ d=>d) () (fun _ _ _ _=>()) v
def Yip(v:AD):(Nat→Option AV)→Option AV→Option AV:=
 AD.rec (motive:=fun _=>(Nat→Option AV)→Option AV→Option AV) (fun _ _ d=>d) (fun _ d=>d) (fun _ d=>d) (fun _ _ d=>d) (fun x0 f _=>f x0) (fun _ _ _ d=>d) (fun _ _ _ d=>d) (fun _ d=>d) (fun _ d=>d) (fun _ d=>d) (fun _ d=>d) (fun _ _ _ d=>d) v
def Y4k(v:AD):(Nat→Nat→Option AV)→Option AV→Option AV:=
 AD.rec (motive:=fun _=>(Nat→Nat→Option AV)→Option AV→Option AV) (fun _ _ d=>d) (fun _ d=>d) (fun _ d=>d) (fun _ _ d=>d) (fun _ _ d=>d) (fun x0 x1 f _=>f x0 x1) (fun _ _ _ d=>d) (fun _ d=>d) (fun _ d=>d) (fun _ d=>d) (fun _ d=>d) (fun _ _ _ d=>d) v
def Yav(v:AD):(List (Nat×Nat)→Bool→Option AV)→Option AV→Option AV:=
 AD.rec (motive:=fun _=>(List (Nat×Nat)→Bool→Option AV)→Option AV→Option AV) (fun _ _ d=>d) (fun _ d=>d) (fun _ d=>d) (fun _ _ d=>d) (fun _ _ d=>d) (fun _ _ _ d=>d) (fun x0 x1 f _=>f x0 x1) (fun _ d=>d) (fun _ d=>d) (fun _ d=>d) (fun _ d=>d) (fun _ _ _ d=>d) v
def Yk2(v:AD):Option AV→Option AV→Option AV:=
 AD.rec (motive:=fun _=>Option AV→Option AV→Option AV) (fun _ _ d=>d) (fun _ d=>d) (fun f _=>f) (fun _ _ d=>d) (fun _ _ d=>d) (fun _ _ _ d=>d) (fun _ _ _ d=>d) (fun _ d=>d) (fun _ d=>d) (fun _ d=>d) (fun _ d=>d) (fun _ _ _ d=>d) v
def Ya5:IntKind→Nat
 |.i8=>128 | .i16=>32768 | .i32=>2147483648 | .i64=>9223372036854775808 | .u8=>256 | .u16=>65536 | .u32=>4294967296 | .u64=>18446744073709551616
def Yxi:IntKind→Nat
 |.i8=>128 | .i16=>32768 | .i32=>2147483648 | .i64=>9223372036854775808 | .u8=>0 | .u16=>0 | .u32=>0 | .u64=>0
def inR(k:IntKind)(n:Int):Bool:=Int.rec (motive:=fun _=>Bool) (fun m=>Nat.blt m (Ya5 k)) (fun m=>Nat.blt m (Yxi k)) n
def Za(k:IntKind)(n:Int):Int:=bc (inR k n) n (k.wrap n)
theorem Jg(k:IntKind)(n:Int):Za k n=k.wrap n:=by
 unfold Za
 cases h:inR k n with
 |false=>rfl
 |true=>
  show n=_
  have b:-(Yxi k:Int)≤n∧n<Ya5 k:=by
   cases n with
   |ofNat m=>
    have h':Nat.blt m (Ya5 k)=true:=h
    rw[Nat.blt_eq] at h'
    constructor
    ·have:(0:Int)≤Int.ofNat m:=Int.natCast_nonneg m
     omega
    ·exact Int.ofNat_lt.2 h'
   |negSucc m=>
    have h':Nat.blt m (Yxi k)=true:=h
    rw[Nat.blt_eq] at h'
    have:Int.negSucc m=-((m:Int)+1):=Int.negSucc_eq m
    constructor <;> omega
  symm
  cases k <;> simp only[Ya5,Yxi] at b
  ·exact IntWalk.i8_in n (by omega)
  ·exact IntWalk.i16_in n (by omega)
  ·exact IntWalk.i32_in n (by omega)
  ·exact IntWalk.i64_in n (by omega)
  ·exact IntWalk.u8_in n (by omega)
  ·exact IntWalk.u16_in n (by omega)
  ·exact IntWalk.u32_in n (by omega)
  ·exact IntWalk.u64_in n (by omega)
def Z86(op:BinOp):IntKind→Int→Int→Option AV:=
 BinOp.rec (motive:=fun _=>IntKind→Int→Int→Option AV) (fun k x y=>some (.int k (Za k (Int.add x y))))
  (fun k x y=>some (.int k (Za k (Int.sub x y))))
  (fun k x y=>some (.int k (Za k (Int.mul x y))))
  (fun k x y=>Q3 .quo k x y)
  (fun k x y=>Q3 .rem k x y)
  (fun k x y=>Q3 .and k x y)
  (fun k x y=>Q3 .or k x y)
  (fun k x y=>Q3 .xor k x y)
  (fun k x y=>Q3 .shl k x y)
  (fun k x y=>Q3 .shr k x y)
  (fun k x y=>Q3 .andNot k x y)
  (fun _ x y=>some (.bool (Zd x y)))
  (fun _ x y=>some (.bool (!(Zd x y))))
  (fun _ x y=>some (.bool (Z2 x y)))
  (fun _ x y=>some (.bool (!(Z2 y x))))
  (fun _ x y=>some (.bool (Z2 y x)))
  (fun _ x y=>some (.bool (!(Z2 x y)))) op
theorem Z0o(op:BinOp)(k:IntKind)(x y:Int):Z86 op k x y=Q3 op k x y:=by
 cases op <;> (try rfl) <;> (show some (AV.int k (Za k _))=_) <;> rw[Jg] <;> rfl
def Zvw:BinOp→Bool
 |.shl=>true
 |.shr=>true
 |_=>false
def Zcu:AV→Bool
 |.nili=>true
 |_=>false
def Y7k(E:Env)(op:BinOp)(xt:TypeId)(a b:AV)(k:IntKind)(i:Int):Option AV:=
 Zp0 b (fun k' j=>bc (Zvw op) (Zbv E op xt (.int k i) (.int k' j)) (bc (sameKind k k') (Z86 op k i j) none)) (Zbv E op xt a b)
def Z9v(E:Env)(op:BinOp)(xt:TypeId)(a b:AV):Option AV:=Zp0 a (fun k i=>Y7k E op xt a b k i) (Zbv E op xt a b)
theorem Zkm(E:Env)(op:BinOp)(xt:TypeId)(a b:AV):Z9v E op xt a b=Zbv E op xt a b:=by
 cases a <;> try rfl
 cases b <;> try rfl
 rename_i k i k' j
 show bc (Zvw op) (Zbv E op xt (.int k i) (.int k' j)) (bc (sameKind k k') (Z86 op k i j) none)=_
 rw[Z0o]
 cases op <;> simp only[Zvw,Ku,cond_true,cond_false,Zbv]
def Wy(E:Env)(fr:Tr AV)(x:Operand):Option AV:=
 Operand.rec (motive:=fun _=>Env→Tr AV→Option AV) (fun t _ fr=>fr.get t) (fun v _ _=>Qg v) (fun g E _=>bif Nat.blt g E.ng then some (.ptr g 0) else none) (fun f _ _=>some (.fn f [] [])) x E fr
theorem Y1(E:Env)(fr:Tr AV)(x:Operand):Wy E fr x=Vk E fr x:=by cases x <;> rfl
def Zjc(E:Env)(fr:Tr AV)(l:List Operand):Option (List AV):=
 List.rec (motive:=fun _=>Option (List AV)) (some []) (fun x _ ih=>ob (Wy E fr x) fun v=>ob ih fun vs=>some (v::vs)) l
theorem Zdw(E:Env)(fr:Tr AV):∀ l:List Operand,Zjc E fr l=Zet E fr l
 |[]=>rfl
 |x::xs=>by
  show ob (Wy E fr x) (fun v=>ob (Zjc E fr xs) fun vs=>some (v::vs))=_
  rw[Y1,Zdw]
  simp only[Zet]
  cases Vk E fr x with
  |none=>rfl
  |some v=>cases Zet E fr xs <;> rfl
def Yg8(off:Nat)(ti:ATy)(c:Tr AV):Option AV:=bc ti.agg (ob (c.getAll off ti.size) fun l=>some (.agg l)) (c.get off)
def Yzw(o:AObj):Nat→ATy→Option AV:=
 AObj.rec (motive:=fun _=>Nat→ATy→Option AV) (fun _ c _ _ _ _ _ off ti=>Yg8 off ti c) (fun _ _ _ _ _ _ _ _ _ _=>none) (fun _ _ _ _=>none) (fun _ _=>none) (fun _ _ _ _ _=>none) (fun _ _ _ _ _ _=>none) o
def Yzn(E:Env)(H:AHeap)(t:TypeId)(p:AV):Option AV:=Z6b p (fun id off=>ob (E.ty t) fun ti=>ob (H.get id) fun o=>Yzw o off ti) none
theorem Yql(E:Env)(H:AHeap)(t:TypeId)(p:AV):Yzn E H t p=Kw E H t p:=by
 cases p <;> try rfl
 rename_i id off
 show(ob (E.ty t) fun ti=>ob (H.get id) fun o=>Yzw o off ti)=_
 simp only[Kw]
 cases E.ty t with
 |none=>rfl
 |some ti=>
  cases H.get id with
  |none=>rfl
  |some o=>
   cases o <;> try rfl
   rename_i n c e g fz ro mk
   show Yg8 off ti c=_
   simp only[Yg8,Ku]
   cases ti.agg
   ·rfl
   ·simp only[cond_true]
    cases c.getAll off ti.size <;> rfl
def Z45(H:AHeap)(ti:ATy)(id off:Nat)(vs:List AV):AObj→Option AHeap
 |.cells n c e g fz ro mk=>bc (Nat.beq vs.length ti.size&&(vs.all AV.one&&(Nat.ble (off+ti.size) n&&(Nat.ble fz off&&!ro)))) (some (H.put id (.cells n (c.putAll off vs) e g fz ro mk))) none
 |_=>none
def Ygh(E:Env)(H:AHeap)(t:TypeId)(v p:AV):Option AHeap:=Y2h p (fun id off=>ob (E.ty t) fun ti=>ob (H.get id) fun o=>Z45 H ti id off v.cells o) none
theorem Ydv(E:Env)(H:AHeap)(t:TypeId)(p v:AV):Ygh E H t v p=Kj E H t p v:=by
 cases p <;> try rfl
 rename_i id off
 show(ob (E.ty t) fun ti=>ob (H.get id) fun o=>Z45 H ti id off v.cells o)=_
 simp only[Kj]
 cases E.ty t with
 |none=>rfl
 |some ti=>
  cases H.get id with
  |none=>rfl
  |some o=>
   cases o <;> try rfl
   simp only[Wl,Z45,Ku]
abbrev XF:=Env→AHeap→Tr AV→Option ARes
def rv(H:AHeap)(v:AV):Option ARes:=some (.val v H)
theorem Zfw(H:AHeap)(x:Option AV):(ob x fun v=>rv H v)=vh H x:=by cases x <;> rfl
def Z81(x:Operand):XF:=fun E H fr=>ob (Wy E fr x) fun v=>rv H v
def pickK(E:Env)(H:AHeap)(fr:Tr AV)(a b:Operand)(v:AV):Option ARes:=Yxm v (fun c=>bc c (ob (Wy E fr a) fun v=>rv H v) (ob (Wy E fr b) fun v=>rv H v)) none
def Yzk(c a b:Operand):XF:=fun E H fr=>ob (Wy E fr c) fun v=>pickK E H fr a b v
def Yzq(t:TypeId)(a:Operand):XF:=fun E H fr=>ob (Wy E fr a) fun p=>ob (Yzn E H t p) fun v=>rv H v
def Ymj(t:TypeId)(a x:Operand):XF:=fun E H fr=>ob (Wy E fr a) fun p=>ob (Wy E fr x) fun v=>ob (Ygh E H t v p) fun H'=>some (.skip H')
def Zqv(E:Env)(H:AHeap)(op:BinOp)(t:TypeId)(x y:Operand)(a b:AV):Option ARes:=
 bc (Zcu a&&Zcu b) (bc (isConst x||isConst y) (vh H (Zbv E op t a b)) none) (ob (Z9v E op t a b) fun v=>rv H v)
def Y4o(op:BinOp)(t:TypeId)(x y:Operand):XF:=fun E H fr=>ob (Wy E fr x) fun a=>ob (Wy E fr y) fun b=>Zqv E H op t x y a b
def xUn(op:UnOp)(x:Operand):XF:=fun E H fr=>ob (Wy E fr x) fun a=>ob (unA op a) fun v=>rv H v
def Zig(E:Env)(t:TypeId)(x:AV)(f:Nat):Option AV:=ob (E.ty t) fun ti=>Z6b x (fun id off=>Yav ti.d (fun fs _=>ob (Zm3 fs f) fun p=>ob (E.ty p.2) fun fi=>bc (Nat.beq fi.size 0) none (some (.ptr id (Nat.add off p.1)))) none) none
theorem Zsd(E:Env)(t:TypeId)(x:AV)(f:Nat):Zig E t x f=Zca E t x f:=by
 unfold Zig Zca
 cases E.ty t with
 |none=>rfl
 |some ti=>
  simp only[Wl]
  cases x <;> (try (cases ti.d <;> rfl;done))
  rename_i id off
  obtain⟨d,a1,a2,a3,a4,a5⟩:=ti
  cases d <;> try rfl
  rename_i fs q
  show(ob (Zm3 fs f) fun p=>ob (E.ty p.2) fun fi=>bc (Nat.beq fi.size 0) none (some (AV.ptr id (Nat.add off p.1))))=_
  dsimp only
  cases Zm3 fs f with
  |none=>rfl
  |some p=>
   obtain⟨o,ft⟩:=p
   simp only[Wl]
   cases E.ty ft with
   |none=>rfl
   |some fi=>simp only[Wl,Ku];rfl
def Zo1(t:TypeId)(x:Operand)(f:Nat):XF:=fun E H fr=>ob (Wy E fr x) fun a=>ob (Zig E t a f) fun v=>rv H v
def Ykl(t:TypeId)(x:Operand)(f:Nat):XF:=fun E H fr=>ob (Wy E fr x) fun a=>ob (Zvn E t a f) fun v=>rv H v
def Yc4(E:Env)(e id off len n:Nat):Option AV:=ob (E.ty e) fun ei=>bc (Nat.blt n len) (some (.ptr id (off+n*ei.size))) none
def Zh5(E:Env)(t:TypeId)(x i:AV):Option AV:=ob (E.ty t) fun ti=>Zp0 i (fun _ n=>bc (Z2 n 0) none (Yip ti.d (fun e=>Y6p x (fun id off len _=>Yc4 E e id off len n.toNat) none) (Y4k ti.d (fun k e=>Z6b x (fun id off=>Yc4 E e id off k n.toNat) none) none))) none
theorem Zrn(E:Env)(t:TypeId)(x i:AV):Zh5 E t x i=Kd E t x i:=by
 unfold Zh5 Kd
 cases E.ty t with
 |none=>rfl
 |some ti=>
  simp only[Wl]
  cases i <;> try rfl
  rename_i k n
  show bc (Z2 n 0) none _=_
  rw[Ku]
  simp only
  cases Z2 n 0 with
  |true=>rfl
  |false=>
   simp only[cond_false]
   obtain⟨d,a1,a2,a3,a4,a5⟩:=ti
   cases d <;> (try (cases x <;> rfl;done))
   case slice e=>
    cases x <;> try rfl
    rename_i id off len cap
    show Yc4 E e id off len n.toNat=_
    unfold Yc4
    simp only
    cases E.ty e with
    |none=>rfl
    |some ei=>simp only[Wl,Ku]
   case array q e=>
    cases x <;> try rfl
    rename_i id off
    show Yc4 E e id off q n.toNat=_
    unfold Yc4
    simp only
    cases E.ty e with
    |none=>rfl
    |some ei=>simp only[Wl,Ku]
def Zqi(t:TypeId)(x i:Operand):XF:=fun E H fr=>ob (Wy E fr x) fun a=>ob (Wy E fr i) fun b=>ob (Zh5 E t a b) fun v=>rv H v
def Y0q(s:List UInt8):Nat→Option UInt8:=List.rec (motive:=fun _=>Nat→Option UInt8) (fun _=>none) (fun a _ ih i=>Nat.rec (motive:=fun _=>Option UInt8) (some a) (fun j _=>ih j) i) s
theorem Z80:∀(s:List UInt8)(i:Nat),Y0q s i=nth s i
 |[],_=>rfl
 |_::_,0=>rfl
 |_::s,i+1=>Z80 s i
def Z29(E:Env)(t:TypeId)(x i:AV):Option AV:=Y1z x (fun s=>ob (E.ty t) fun ti=>Yk2 ti.d (Zp0 i (fun _ n=>bc (Z2 n 0) none (ob (Y0q s n.toNat) fun b=>some (Z3 b))) none) (Zcb E t x i)) (Zcb E t x i)
theorem Yes(E:Env)(t:TypeId)(x i:AV):Z29 E t x i=Zcb E t x i:=by
 unfold Z29
 cases x <;> try rfl
 rename_i s
 show(ob (E.ty t) fun ti=>Yk2 ti.d _ (Zcb E t (.str s) i))=_
 cases ht:E.ty t with
 |none=>simp[ob,Zcb,ht]
 |some ti=>
  simp only[Wl]
  cases hd:ti.d <;> try rfl
  show Zp0 i (fun _ n=>bc (Z2 n 0) none (ob (Y0q s n.toNat) fun b=>some (Z3 b))) none=_
  unfold Zcb
  rw[ht]
  cases i <;> try rfl
  rename_i k n
  show bc (Z2 n 0) none _=_
  rw[Ku,Z80]
  simp only[hd]
  cases Z2 n 0 with
  |true=>rfl
  |false=>
   simp only[cond_false]
   cases nth s n.toNat <;> rfl
def Yoa(t:TypeId)(x i:Operand):XF:=fun E H fr=>ob (Wy E fr x) fun a=>ob (Wy E fr i) fun b=>ob (Z29 E t a b) fun v=>rv H v
def extK(H:AHeap)(i:Nat)(v:AV):Option ARes:=Y3e v (fun vs=>ob (vs.drop i).head? fun v=>rv H v) none
def Zy5(x:Operand)(i:Nat):XF:=fun E H fr=>ob (Wy E fr x) fun a=>extK H i a
def Y7e(E:Env)(fr:Tr AV)(args:List Operand)(v:AV):Option ARes:=
 Y96 v (fun g first cap=>ob (Zjc E fr args) fun l=>some (.call g (first++(l++cap)))) (Y2y v (fun id=>ob (Zjc E fr args) fun l=>some (.ycall id l)) none)
def Yy7(c:Call):XF:=match c.callee with
 |.builtin b=>fun E H fr=>ob (Zjc E fr c.args.toList) fun l=>Zbg E H b c.argTypes.toList l
 |.value f=>fun E _ fr=>ob (Wy E fr f) fun v=>Y7e E fr c.args.toList v
 |.invoke _ _=>fun _ _ _=>none
def Zsc(E:Env)(fr:Tr AV):Option Operand→Option (Option AV)
 |none=>some none
 |some x=>ob (Wy E fr x) fun v=>some (some v)
def Yhp(t:TypeId)(x:Operand)(lo hi mx:Option Operand):XF:=fun E H fr=>ob (Wy E fr x) fun a=>ob (Zsc E fr lo) fun l=>ob (Zsc E fr hi) fun h=>ob (Zsc E fr mx) fun m=>ob (Zdi E H t a l h m) fun v=>rv H v
def Y90(H:AHeap)(e:TypeId)(cs:List AV):Option ARes:=bc (cs.all AV.one) (some (.val (.ptr H.next 0) (Vo H e cs))) none
def xBox(e:TypeId)(x:Operand):XF:=fun E H fr=>ob (Wy E fr x) fun v=>Y90 H e v.cells
def Ylc(e:TypeId):XF:=fun E H _=>ob (E.ty e) fun ti=>some (.val (.ptr H.next 0) (Vo H e ti.zero))
def Qh(o:Oper):XF:=fun E H fr=>Xf E H fr o
def xOp(o:Oper):XF:=
 Op.rec (motive:=fun _=>Oper→XF) (fun x _=>Z81 x)
  (fun x _=>Z81 x)
  (fun c a b _=>Yzk c a b)
  (fun e _=>Ylc e)
  (fun e x _=>xBox e x)
  (fun _ _ o=>Qh o)
  (fun _ _ _ o=>Qh o)
  (fun _ _ _ _ o=>Qh o)
  (fun t a _=>Yzq t a)
  (fun t a x _=>Ymj t a x)
  (fun _ o=>Qh o)
  (fun _ o=>Qh o)
  (fun _ o=>Qh o)
  (fun op t x y _ _=>Y4o op t x y)
  (fun op _ x _=>xUn op x)
  (fun _ _ _ o=>Qh o)
  (fun _ _ o=>Qh o)
  (fun _ _ o=>Qh o)
  (fun _ _ _ o=>Qh o)
  (fun _ _ o=>Qh o)
  (fun _ _ o=>Qh o)
  (fun _ _ _ o=>Qh o)
  (fun t x lo hi mx _=>Yhp t x lo hi mx)
  (fun t x f _=>Zo1 t x f)
  (fun t x f _=>Ykl t x f)
  (fun t x i _=>Zqi t x i)
  (fun t x i _=>Yoa t x i)
  (fun _ _ _ _ o=>Qh o)
  (fun _ _ _ _ o=>Qh o)
  (fun _ _ _ o=>Qh o)
  (fun _ _ _ _ o=>Qh o)
  (fun _ _ o=>Qh o)
  (fun _ _ o=>Qh o)
  (fun _ o=>Qh o)
  (fun _ _ _ _ o=>Qh o)
  (fun x i _=>Zy5 x i)
  (fun c _=>Yy7 c)
  (fun _ o=>Qh o)
  (fun _ o=>Qh o)
  (fun _ o=>Qh o)
  (fun _ _ o=>Qh o)
  (fun _ _ _ o=>Qh o)
  (fun _ _ o=>Qh o) o.op o
def Z0f(E:Env)(H:AHeap)(fr:Tr AV)(o:Oper):Option ARes:=xOp o E H fr
theorem Z20(a:AV):Zcu a=true↔a=.nili:=by cases a <;> simp[Zcu]
theorem Zkc(E:Env)(H:AHeap)(fr:Tr AV)(o:Oper):Z0f E H fr o=Xf E H fr o:=by
 unfold Z0f xOp
 cases hop:o.op <;> (try rfl) <;> unfold Xf <;> rw[hop] <;> dsimp only
 case move x=>simp only[Z81,Zfw,Y1]
 case assign x=>simp only[Z81,Zfw,Y1]
 case pick c a b=>
  simp only[Yzk,Y1]
  cases Vk E fr c with
  |none=>rfl
  |some v=>
   cases v <;> try rfl
   rename_i b'
   show bc b' (ob (Wy E fr a) fun v=>rv H v) (ob (Wy E fr b) fun v=>rv H v)=_
   simp only[Zfw,Y1]
   cases b' <;> rfl
 case load t a=>
  simp only[Yzq,Y1,Yql,Zfw]
  cases Vk E fr a <;> rfl
 case store t a x=>
  simp only[Ymj,Y1,Ydv]
  cases Vk E fr a with
  |none=>rfl
  |some p=>
   cases Vk E fr x with
   |none=>rfl
   |some v=>
    simp only[Wl]
    cases Kj E H t p v <;> rfl
 case binOp op t x y z=>
  simp only[Y4o,Y1]
  cases Vk E fr x with
  |none=>rfl
  |some a=>
   cases Vk E fr y with
   |none=>cases a <;> rfl
   |some b=>
    simp only[Wl,Zqv,Zfw,Zkm,Ku]
    by_cases ha:Zcu a=true
    ·by_cases hb:Zcu b=true
     ·rw[ha,hb]
      rw[Z20] at ha hb
      subst ha;subst hb
      rfl
     ·have hb':Zcu b=false:=by simpa using hb
      rw[ha,hb']
      cases a <;> (try (simp[Zcu] at ha;done))
      cases b <;> first | rfl | (simp[Zcu] at hb';done)
    ·have ha':Zcu a=false:=by simpa using ha
     rw[ha']
     cases a <;> first | rfl | (simp[Zcu] at ha';done)
 case unOp op t x=>
  simp only[xUn,Y1,Zfw]
  cases Vk E fr x <;> rfl
 case fieldAddr t x f=>
  simp only[Zo1,Y1,Zsd,Zfw]
  cases Vk E fr x <;> rfl
 case field t x f=>
  simp only[Ykl,Y1,Zfw]
  cases Vk E fr x <;> rfl
 case indexAddr t x i=>
  simp only[Zqi,Y1,Zrn,Zfw]
  cases Vk E fr x with
  |none=>rfl
  |some a=>cases Vk E fr i <;> rfl
 case index t x i=>
  simp only[Yoa,Y1,Yes,Zfw]
  cases Vk E fr x with
  |none=>rfl
  |some a=>cases Vk E fr i <;> rfl
 case extract x i=>
  simp only[Zy5,Y1]
  cases Vk E fr x with
  |none=>rfl
  |some a=>
   cases a <;> try rfl
   rename_i vs
   show(ob (vs.drop i).head? fun v=>rv H v)=_
   dsimp only
   cases(vs.drop i).head? <;> rfl
 case call c=>
  unfold Yy7
  cases c.callee with
  |builtin b=>
   simp only[Zdw]
   cases Zet E fr c.args.toList <;> rfl
  |value f=>
   simp only[Y1]
   cases Vk E fr f with
   |none=>rfl
   |some v=>
    cases v <;> try rfl
    case fn g first cap=>
     show(ob (Zjc E fr c.args.toList) fun l=>some (ARes.call g (first++(l++cap))))=_
     rw[Zdw]
     cases Zet E fr c.args.toList <;> rfl
    case yld id=>
     show(ob (Zjc E fr c.args.toList) fun l=>some (ARes.ycall id l))=_
     rw[Zdw]
     cases Zet E fr c.args.toList <;> rfl
  |invoke r n=>rfl
 case slice t x lo hi mx=>
  have oe:∀ y,Zsc E fr y=Jy E fr y:=fun y=>by
   cases y with
   |none=>rfl
   |some y=>simp only[Zsc,Jy,Y1];cases Vk E fr y <;> rfl
  simp only[Yhp,Y1,oe,Zfw]
  cases Vk E fr x with
  |none=>rfl
  |some a=>cases Jy E fr lo with
   |none=>rfl
   |some l=>cases Jy E fr hi with
    |none=>rfl
    |some h=>cases Jy E fr mx <;> rfl
 case box e x=>
  simp only[xBox,Y1]
  cases Vk E fr x with
  |none=>rfl
  |some v=>simp only[Wl,Y90,Ku]
 case alloc e=>
  simp only[Ylc]
  cases E.ty e <;> rfl
def Zc2(fr:AFr)(d:Option Tmp)(v:AV):AFr:=
 Option.rec (motive:=fun _=>AFr) fr (fun d=>bc (Nat.blt d fr.n) ⟨fr.n,fr.t.set d v,fr.df,fr.rd⟩ fr) d
theorem V1(fr:AFr)(d:Option Tmp)(v:AV):Zc2 fr d v=fr.put d v:=by
 cases d with
 |none=>rfl
 |some d=>simp only[Zc2,AFr.put,Ku]
def Y9m(v:AV)(want:Bool):Option Bool:=Ywo v (fun b=>some (b==want)) (Y5e v (fun _=>some false) none)
def Zn2(ops:Array Oper)(fr:Tr AV)(g:Option (Nat×Bool)):Option Bool:=
 match g with
 |none=>some true
 |some (j,want)=>match(ops[j]?).bind (·.dst) with
  |none=>some false
  |some d=>ob (fr.get d) fun v=>Y9m v want
theorem Zn6(ops:Array Oper)(fr:Tr AV)(o:Oper):Zn2 ops fr o.guard=X3 ops fr o:=by
 unfold Zn2 X3
 cases o.guard with
 |none=>rfl
 |some g=>
  obtain⟨j,want⟩:=g
  simp only
  cases(ops[j]?).bind (·.dst) with
  |none=>rfl
  |some d=>
   simp only
   cases fr.get d with
   |none=>rfl
   |some v=>cases v <;> rfl
def Z12(ih:Task→Option TRes)(H:AHeap):ARes→Option ARes
 |.val v H=>some (.val v H)
 |.skip H=>some (.skip H)
 |r=>Xk ih H r
theorem Ztj(ih:Task→Option TRes)(H:AHeap)(r:ARes):Z12 ih H r=Xk ih H r:=by cases r <;> rfl
def Y8m(o:Oper)(k:AFr→AHeap→Option TRes)(fr:AFr):ARes→Option TRes
 |.val v H=>k (Zc2 fr o.dst v) H
 |.skip H=>k (Zc2 fr o.dst Wj) H
 |.panic v H=>some (.code (.panic v) fr H)
 |.defer _ _=>none
 |_=>none
def Ygd(o:Oper)(k:AFr→AHeap→Option TRes)(fr:AFr)(H:AHeap):ARes→Option TRes
 |.defer f args=>bif fr.rd then none else k (Zc2 { fr with df:=.call f args::fr.df} o.dst Wj) H
 |r=>Y8m o k fr r
def Yzu(E:Env)(ih:Task→Option TRes)(o:Oper)(k:AFr→AHeap→Option TRes)(fr:AFr)(H:AHeap):Option TRes:=
 ob (Z0f E H fr.t o) fun r=>ob (Z12 ih H r) fun r2=>Ygd o k fr H r2
def opK(E:Env)(ih:Task→Option TRes)(all:Array Oper)(o:Oper)(k:AFr→AHeap→Option TRes):AFr→AHeap→Option TRes:=fun fr H=>
 ob (Zn2 all fr.t o.guard) fun b=>bc b (Yzu E ih o k fr H) (k (Zc2 fr o.dst Wj) H)
def Yya(E:Env)(ih:Task→Option TRes)(all:Array Oper)(l:List Oper):AFr→AHeap→Option TRes:=
 List.rec (motive:=fun _=>AFr→AHeap→Option TRes) (fun fr H=>some (.code .normal fr H)) (fun o _ k=>opK E ih all o k) l
theorem Z72(E:Env)(ih:Task→Option TRes)(all:Array Oper):∀(l:List Oper)(fr:AFr)(H:AHeap),Yya E ih all l fr H=Za6 E ih all l fr H
 |[],_,_=>rfl
 |o::l,fr,H=>by
  show opK E ih all o (Yya E ih all l) fr H=_
  have hk:Yya E ih all l=Za6 E ih all l:=by funext fr H;exact Z72 E ih all l fr H
  rw[hk]
  simp only[opK,Yzu,Za6,Zn6,Zkc,Ztj,V1,Ku]
  cases X3 all fr.t o with
  |none=>rfl
  |some b=>
   cases b with
   |false=>rfl
   |true=>
    simp only[Wl,cond_true]
    cases Xf E H fr.t o with
    |none=>rfl
    |some r=>
     simp only[Wl]
     cases Xk ih H r with
     |none=>rfl
     |some r2=>cases r2 <;> simp only[Wl,Ygd,Y8m,V1]
def dK(E:Env)(_ih:Task→Option TRes)(an:Tr Nat)(fr0:AFr)(all:Array Oper)(rest:List Oper)(o:Oper)(k:Nat→List QRec→List ERec→AFr→AHeap→Option TRes)(i m:Nat)(qs:List QRec)(es:List ERec)(fr:AFr)(H:AHeap):ARes→Option TRes
 |.val v H'=>bc (Ka E H' m qs) (k (i+1) qs (⟨i,H⟩::es) (Zc2 fr o.dst v) H') none
 |.skip H'=>bc (Ka E H' m qs) (k (i+1) qs (⟨i,H⟩::es) (Zc2 fr o.dst Wj) H') none
 |.panic v H'=>bc (Zf1 an i rest (i+1)) (some (.code (.panic v) { fr0 with t:=Zc8 fr0.t all.toList} H')) none
 |_=>none
def dQ(E:Env)(o:Oper)(k:Nat→List QRec→List ERec→AFr→AHeap→Option TRes)(i m:Nat)(qs:List QRec)(es:List ERec)(fr:AFr)(H:AHeap):ARes→Option TRes
 |.val v _=>bc (Zb1 E ⟨i,o,fr.t,v⟩ m es) (k (i+1) (⟨i,o,fr.t,v⟩::qs) es (Zc2 fr o.dst v) H) none
 |_=>none
def dW(E:Env)(ih:Task→Option TRes)(an:Tr Nat)(fr0:AFr)(all:Array Oper)(rest:List Oper)(o:Oper)(k:Nat→List QRec→List ERec→AFr→AHeap→Option TRes)(i:Nat)(qs:List QRec)(es:List ERec)(fr:AFr)(H:AHeap):Option TRes:=
 ob (an.get i) fun m=>ob (Z0f E H fr.t o) fun r=>bc (Xg E o.op) (dQ E o k i m qs es fr H r) (ob (Z12 ih H r) fun r2=>dK E ih an fr0 all rest o k i m qs es fr H r2)
def dOp(E:Env)(ih:Task→Option TRes)(an:Tr Nat)(fr0:AFr)(all:Array Oper)(rest:List Oper)(o:Oper)(k:Nat→List QRec→List ERec→AFr→AHeap→Option TRes):Nat→List QRec→List ERec→AFr→AHeap→Option TRes:=fun i qs es fr H=>
 ob (Zn2 all fr.t o.guard) fun b=>bc b (dW E ih an fr0 all rest o k i qs es fr H) (k (i+1) qs es (Zc2 fr o.dst Wj) H)
def Z7n(E:Env)(ih:Task→Option TRes)(all:Array Oper)(an:Tr Nat)(fr0:AFr)(l:List Oper):Nat→List QRec→List ERec→AFr→AHeap→Option TRes:=
 List.rec (motive:=fun _=>Nat→List QRec→List ERec→AFr→AHeap→Option TRes) (fun _ _ _ fr H=>some (.code .normal fr H)) (fun o rest k=>dOp E ih an fr0 all rest o k) l
theorem Zz4(E:Env)(ih:Task→Option TRes)(all:Array Oper)(an:Tr Nat)(fr0:AFr):∀(l:List Oper)(i:Nat)(qs:List QRec)(es:List ERec)(fr:AFr)(H:AHeap),Z7n E ih all an fr0 l i qs es fr H=Zgg E ih all an fr0 l i qs es fr H
 |[],_,_,_,_,_=>rfl
 |o::l,i,qs,es,fr,H=>by
  show dOp E ih an fr0 all l o (Z7n E ih all an fr0 l) i qs es fr H=_
  have hk:Z7n E ih all an fr0 l=Zgg E ih all an fr0 l:=by funext i qs es fr H;exact Zz4 E ih all an fr0 l i qs es fr H
  rw[hk]
  simp only[dOp,dW,Zgg,Zn6,Zkc,Ztj,V1,Ku]
  cases X3 all fr.t o with
  |none=>rfl
  |some b=>
   cases b with
   |false=>rfl
   |true=>
    simp only[Wl,cond_true]
    cases an.get i with
    |none=>rfl
    |some m=>
     simp only[Wl]
     cases Xf E H fr.t o with
     |none=>rfl
     |some r=>
      simp only[Wl]
      cases Xg E o.op with
      |true=>cases r <;> simp only[cond_true,dQ,Ku,V1]
      |false=>
       simp only[cond_false]
       cases Xk ih H r with
       |none=>rfl
       |some r2=>cases r2 <;> simp only[Wl,dK,Ku,V1]
def Yzx(E:Env)(ih:Task→Option TRes)(ops:Array Oper)(fr:AFr)(H:AHeap):Option TRes:=
 ob (Zqh ops.toList 0 .nil) fun an=>bc (Zn4 E an ops.toList&&(Nat.ble fr.n 1000000&&Nat.ble ops.size 1000000)) (Z7n E ih ops an fr ops.toList 0 [] [] fr H) none
def Zwl(E:Env)(ih:Task→Option TRes)(ops:Array Oper)(draw:Bool):AFr→AHeap→Option TRes:=fun fr H=>bc draw (Yzx E ih ops fr H) (Yya E ih ops ops.toList fr H)
theorem Z5o(E:Env)(ih:Task→Option TRes)(ops:Array Oper)(draw:Bool)(fr:AFr)(H:AHeap):Zwl E ih ops draw fr H=Zde E ih ops draw fr H:=by
 simp only[Zwl,Zde,Ku,Z72,Yzx,Zz4]
 cases draw with
 |false=>rfl
 |true=>
  simp only[cond_true]
  cases Zqh ops.toList 0 .nil <;> rfl
abbrev CF:=AFr→AHeap→Option TRes
def Y8j(b:CF):TRes→Option TRes
 |.code e fr H=>AExit.rec (motive:=fun _=>Option TRes) (b fr H) (fun id=>some (.code (.exit id) fr H)) (some (.code .ret fr H)) (fun v=>some (.code (.panic v) fr H)) e
 |r=>some r
def Y3t(a b:CF):CF:=fun fr H=>ob (a fr H) fun r=>Y8j b r
def Y6e(a b:CF)(fr:AFr)(H:AHeap)(v:AV):Option TRes:=Yxs v (fun c=>bc c (a fr H) (b fr H)) none
def Ymq(E:Env)(c:Operand)(a b:CF):CF:=fun fr H=>ob (Wy E fr.t c) fun v=>Y6e a b fr H v
def Yj5(id:Nat):TRes→Option TRes
 |.code e fr H=>AExit.rec (motive:=fun _=>Option TRes) (some (.code .normal fr H)) (fun i=>bc (Nat.beq i id) (some (.code .normal fr H)) (some (.code (.exit i) fr H))) (some (.code .ret fr H)) (fun v=>some (.code (.panic v) fr H)) e
 |r=>some r
def Z13(id:Nat)(a:CF):CF:=fun fr H=>ob (a fr H) fun r=>Yj5 id r
def Yzz(ih:Task→Option TRes)(c:Code):TRes→Option TRes
 |.code e fr H=>AExit.rec (motive:=fun _=>Option TRes) (ih (.code (.loop c) fr H)) (fun i=>some (.code (.exit i) fr H)) (some (.code .ret fr H)) (fun v=>some (.code (.panic v) fr H)) e
 |r=>some r
def Yof(ih:Task→Option TRes)(c:Code)(a:CF):CF:=fun fr H=>ob (a fr H) fun r=>Yzz ih c r
def Zfp(E:Env)(ih:Task→Option TRes)(c:Code):CF:=
 Code.rec (motive:=fun _=>CF) (fun fr H=>some (.code .normal fr H)) (fun _ ops draw=>Zwl E ih ops draw) (fun _ _ a b=>Y3t a b) (fun c _ _ a b=>Ymq E c a b) (fun id _ a=>Z13 id a) (fun c a=>Yof ih c a)
  (fun f ps asz b _ _=>Y3 E ih (.rangeFunc f ps asz b)) (fun id fr H=>some (.code (.exit id) fr H)) (fun c _=>Y3 E ih (.scope c)) (fun _ fr H=>some (.code .normal fr H)) (fun l=>Y3 E ih (.goto l)) (fun fr H=>some (.code .ret fr H)) (fun w=>Y3 E ih (.refuse w)) c
theorem Z0a(E:Env)(ih:Task→Option TRes):∀(c:Code)(fr:AFr)(H:AHeap),Zfp E ih c fr H=Y3 E ih c fr H:=by
 intro c
 induction c with
 |skip=>intro fr H;rfl
 |region id ops draw=>intro fr H;exact Z5o E ih ops draw fr H
 |seq a b iha ihb=>
  intro fr H
  show Y3t (Zfp E ih a) (Zfp E ih b) fr H=_
  simp only[Y3t,iha,Y3]
  cases Y3 E ih a fr H with
  |none=>rfl
  |some r=>
   cases r with
   |code e fr1 H1=>cases e <;> simp only[Wl,Y8j,ihb]
   |call r=>rfl
   |dcall r=>rfl
 |cond c a b iha ihb=>
  intro fr H
  show Ymq E c (Zfp E ih a) (Zfp E ih b) fr H=_
  simp only[Ymq,Y1,Y3]
  cases Vk E fr.t c with
  |none=>rfl
  |some v=>
   cases v <;> try rfl
   rename_i b'
   show bc b' (Zfp E ih a fr H) (Zfp E ih b fr H)=_
   rw[iha,ihb]
   cases b' <;> rfl
 |block id a iha=>
  intro fr H
  show Z13 id (Zfp E ih a) fr H=_
  simp only[Z13,iha,Y3]
  cases Y3 E ih a fr H with
  |none=>rfl
  |some r=>
   cases r with
   |code e fr1 H1=>cases e <;> simp only[Wl,Yj5,Ku]
   |call r=>rfl
   |dcall r=>rfl
 |loop a iha=>
  intro fr H
  show Yof ih a (Zfp E ih a) fr H=_
  simp only[Yof,iha,Y3]
  cases Y3 E ih a fr H with
  |none=>rfl
  |some r=>
   cases r with
   |code e fr1 H1=>cases e <;> simp only[Wl,Yzz]
   |call r=>rfl
   |dcall r=>rfl
 |rangeFunc f ps asz b _ _=>intro fr H;rfl
 |exit id=>intro fr H;rfl
 |scope c _=>intro fr H;rfl
 |label l=>intro fr H;rfl
 |goto l=>intro fr H;rfl
 |ret=>intro fr H;rfl
 |refuse w=>intro fr H;rfl
def Z5d(E:Env)(ih:Task→Option TRes)(rs:List ResultVar)(fr:AFr)(p:Option AV)(H:AHeap):Option TRes:=Qv E ih rs fr.t fr.df p H
def Yyo(E:Env)(ih:Task→Option TRes)(rs:List ResultVar):TRes→Option TRes
 |.code e fr H=>AExit.rec (motive:=fun _=>Option TRes) (Z5d E ih rs fr none H) (fun _=>none) (Z5d E ih rs fr none H) (fun v=>Z5d E ih rs fr (some v) H) e
 |_=>none
def Ynh(E:Env)(ih:Task→Option TRes)(fn:AFunc)(args:List AV)(H:AHeap):Option TRes:=ob (Zfp E ih fn.body (Qa fn args) H) fun r=>Yyo E ih fn.results r
def smK(E:Env)(f:FuncId)(args:List AV)(H:AHeap):Option TRes:=ob (E.sm f args H) fun r=>some (.call (.ret r.1 r.2))
def Y0a(E:Env)(ih:Task→Option TRes)(f:FuncId)(args:List AV)(H:AHeap):Option TRes:=Option.rec (motive:=fun _=>Option TRes) (smK E f args H) (fun fn=>Ynh E ih fn args H) (E.fn f)
def Z70(E:Env)(ih:Task→Option TRes):Task→Option TRes
 |.code c fr H=>Zfp E ih c fr H
 |.call f args H=>Y0a E ih f args H
 |t=>Je E ih t
theorem Yja(E:Env)(ih:Task→Option TRes)(t:Task):Z70 E ih t=Je E ih t:=by
 cases t <;> try rfl
 case code c fr H=>exact Z0a E ih c fr H
 case call f args H=>
  simp only[Z70,Y0a,Je]
  cases E.fn f with
  |none=>
   show smK E f args H=_
   unfold smK
   cases E.sm f args H <;> rfl
  |some fn=>
   show Ynh E ih fn args H=_
   simp only[Ynh,Z0a]
   cases Y3 E ih fn.body (Qa fn args) H with
   |none=>rfl
   |some r=>
    cases r with
    |code e fr H=>cases e <;> rfl
    |call r=>rfl
    |dcall r=>rfl
def Z2p(E:Env)(n:Nat):Task→Option TRes:=Nat.rec (motive:=fun _=>Task→Option TRes) (fun _=>none) (fun _ ih t=>Z70 E ih t) n
theorem Zgl(E:Env):∀ n,Z2p E n=run E n
 |0=>rfl
 |n+1=>by
  funext t
  show Z70 E (Z2p E n) t=Je E (run E n) t
  rw[Zgl E n,Yja]
end
end Go.Vai
end
section
namespace Go.Vai
def Zd8(i:Nat):List Nat→Nat→Option Nat
 |[],_=>none
 |j::r,k=>bif Nat.beq i j then some k else Zd8 i r (k+1)
theorem Yse{i:Nat}:∀{l:List Nat}{k p:Nat},Zd8 i l k=some p→k≤p∧l[p - k]?=some i:=by
 intro l
 induction l with
 |nil=>intro k p h;cases h
 |cons j l ih=>
  intro k p h
  simp only[Zd8,Bool.cond_eq_ite,Nat.beq_eq] at h
  split at h
  ·rename_i e
   simp only[Option.some.injEq] at h;subst h;subst e
   simp
  ·obtain⟨a,b⟩:=ih h
   refine⟨by omega,?_⟩
   rw[show p - k=(p - (k+1))+1 by omega]
   simpa using b
mutual
def rnV(b:Nat)(keep:List Nat):AV→Option AV
 |.ptr i o=>match Zd8 i keep b with | some k=>some (.ptr k o) | none=>none
 |.sl i o n c=>match Zd8 i keep b with | some k=>some (.sl k o n c) | none=>none
 |.yld i=>match Zd8 i keep b with | some k=>some (.yld k) | none=>none
 |.mapv i=>match Zd8 i keep b with | some k=>some (.mapv k) | none=>none
 |.nilm=>some .nilm
 |.opq o=>some (.opq o)
 |.fn f x y=>match Zds b keep x,Zds b keep y with | some x,some y=>some (.fn f x y) | _,_=>none
 |.iface t x=>match rnV b keep x with | some y=>some (.iface t y) | none=>none
 |.agg l=>match Zds b keep l with | some l=>some (.agg l) | none=>none
 |.tup l=>match Zds b keep l with | some l=>some (.tup l) | none=>none
 |.bool t=>some (.bool t)
 |.int k n=>some (.int k n)
 |.str s=>some (.str s)
 |.nilp=>some .nilp
 |.nils=>some .nils
 |.sl0=>some .sl0
 |.nilf=>some .nilf
 |.nili=>some .nili
def Zds(b:Nat)(keep:List Nat):List AV→Option (List AV)
 |[]=>some []
 |v::vs=>match rnV b keep v,Zds b keep vs with | some a,some l=>some (a::l) | _,_=>none
end
def Zy7(b:Nat)(keep:List Nat)(M M':List MEnt):Prop:=∀ k i:Nat,keep[k]?=some i→M'[b+k]?=M[i]?
theorem Zb7{b:Nat}{keep:List Nat}{M M':List MEnt}(hM:Zy7 b keep M M'){i k:Nat}(h:Zd8 i keep b=some k):M'[k]?=M[i]?:=by
 obtain⟨h1,h2⟩:=Yse h
 have:=hM (k - b) i h2
 rwa [show b+(k - b)=k by omega] at this
mutual
theorem Kp{b:Nat}{keep:List Nat}{M M':List MEnt}(hM:Zy7 b keep M M'):∀(v:AV)(u:AV)(cv:Value),rnV b keep v=some u→Zm M v cv→Zm M' u cv
 |.ptr i o,u,cv,h,r=>by
  simp only[rnV] at h
  split at h
  ·rename_i k hk
   cases h
   obtain⟨m,hm,e2⟩:=r
   exact⟨m,by rw[Zb7 hM hk];exact hm,e2⟩
  ·cases h
 |.sl i o n c,u,cv,h,r=>by
  simp only[rnV] at h
  split at h
  ·rename_i k hk
   cases h
   obtain⟨m,cc,hm,e2⟩:=r
   exact⟨m,cc,by rw[Zb7 hM hk];exact hm,e2⟩
  ·cases h
 |.yld i,u,cv,h,r=>by
  simp only[rnV] at h
  split at h
  ·rename_i k hk
   cases h
   obtain⟨m,hm,e2⟩:=r
   exact⟨m,by rw[Zb7 hM hk];exact hm,e2⟩
  ·cases h
 |.fn f x y,u,cv,h,r=>by
  simp only[rnV] at h
  split at h
  ·rename_i a' b' ha hb
   cases h
   obtain⟨fs,cs,e,r1,r2⟩:=r
   exact⟨fs,cs,e,Zeb hM _ _ _ ha r1,Zeb hM _ _ _ hb r2⟩
  ·cases h
 |.iface t x,u,cv,h,r=>by
  simp only[rnV] at h
  split at h
  ·rename_i y hy
   cases h
   obtain⟨z,e,r1⟩:=r
   exact⟨z,e,Kp hM _ _ _ hy r1⟩
  ·cases h
 |.agg l,u,cv,h,r=>by
  simp only[rnV] at h
  split at h
  ·rename_i l' hl
   cases h
   obtain⟨vs,e,r1⟩:=r
   exact⟨vs,e,Zeb hM _ _ _ hl r1⟩
  ·cases h
 |.tup l,u,cv,h,r=>by
  simp only[rnV] at h
  split at h
  ·rename_i l' hl
   cases h
   obtain⟨vs,e,r1⟩:=r
   exact⟨vs,e,Zeb hM _ _ _ hl r1⟩
  ·cases h
 |.mapv i,u,cv,h,r=>by
  simp only[rnV] at h
  split at h
  ·rename_i k hk
   cases h
   obtain⟨m,hm,e2⟩:=r
   exact⟨m,by rw[Zb7 hM hk];exact hm,e2⟩
  ·cases h
 |.nilm,_,_,h,r=>by cases h;exact r
 |.opq _,_,_,h,r=>by cases h;exact r
 |.bool _,_,_,h,r=>by cases h;exact r
 |.int _ _,_,_,h,r=>by cases h;exact r
 |.str _,_,_,h,r=>by cases h;exact r
 |.nilp,_,_,h,r=>by cases h;exact r
 |.nils,_,_,h,r=>by cases h;exact r
 |.sl0,_,_,h,r=>by cases h;exact r
 |.nilf,_,_,h,r=>by cases h;exact r
 |.nili,_,_,h,r=>by cases h;exact r
theorem Zeb{b:Nat}{keep:List Nat}{M M':List MEnt}(hM:Zy7 b keep M M'):∀(v:List AV)(u:List AV)(cv:List Value),Zds b keep v=some u→Zp M v cv→Zp M' u cv
 |[],_,[],h,r=>by cases h;exact r
 |[],_,_::_,_,r=>r.elim
 |_::_,_,[],_,r=>r.elim
 |a::v,u,c::cv,h,r=>by
  simp only[Zds] at h
  split at h
  ·rename_i a' l' ha hl
   cases h
   exact⟨Kp hM _ _ _ ha r.1,Zeb hM _ _ _ hl r.2⟩
  ·cases h
end
def Plain(v:AV):Prop:=∀ b keep,rnV b keep v=some v
def Qq(t:Tr AV):Prop:=∀ i v,t.get i=some v→Plain v
def Ybe(b:Nat)(keep:List Nat):List (AV×AV×Nat)→Option (List (AV×AV×Nat))
 |[]=>some []
 |(k,v,c)::es=>match rnV b keep k,rnV b keep v,Ybe b keep es with
  |some k',some v',some es'=>some ((k',v',c)::es')
  |_,_,_=>none
theorem Z0x{b:Nat}{keep:List Nat}{M M':List MEnt}(hM:Zy7 b keep M M'):∀{es es':List (AV×AV×Nat)}{ces:List MapEntry},Ybe b keep es=some es'→Xt M es ces→Xt M' es' ces
 |[],_,[],h,_=>by cases h;trivial
 |(k,v,c)::es,es',e::ces,h,⟨r1,r2,r3,r4⟩=>by
  simp only[Ybe] at h
  split at h
  ·rename_i k' v' l hk hv hl
   cases h
   exact⟨Kp hM _ _ _ hk r1,Kp hM _ _ _ hv r2,r3,Z0x hM hl r4⟩
  ·cases h
def Y2s(b:Nat)(keep:List Nat):Option Nat→Option (Option Nat)
 |none=>some none
 |some i=>match Zd8 i keep b with | some k=>some (some k) | none=>none
theorem Yg4{b:Nat}{keep:List Nat}{M M':List MEnt}(hM:Zy7 b keep M M'){x y c:Option Nat}(h:Y2s b keep x=some y)(r:Z8q M x c):Z8q M' y c:=by
 cases x with
 |none=>cases h;exact r
 |some i=>
  simp only[Y2s] at h
  split at h
  ·rename_i k hk
   cases h
   obtain⟨m,hm,e⟩:=r
   exact⟨m,by rw[Zb7 hM hk];exact hm,e⟩
  ·cases h
def Zcr(b:Nat)(keep:List Nat):AObj→AObj→Prop
 |.cells n t e g fz ro mk,o=>∃ t',o=.cells n t' e g fz ro mk∧∀ i y,t'.get i=some y→∃ x,t.get i=some x∧rnV b keep x=some y
 |.loop st p n t ps asz bo d,o=>∃ t' d',o=.loop st p n t' ps asz bo d'∧Zd8 d keep b=some d'∧∀ i y,t'.get i=some y→∃ x,t.get i=some x∧rnV b keep x=some y
 |.siter s p,o=>o=.siter s p
 |.dfr,o=>o=.dfr
 |.mp es clock q,o=>∃ es',o=.mp es' clock q∧Ybe b keep es=some es'
 |.miter m since seen last,o=>∃ m',o=.miter m' since seen last∧Y2s b keep m=some m'
theorem Zcr.rel{b:Nat}{keep:List Nat}{M M':List MEnt}(hM:Zy7 b keep M M'){m:MEnt}{w:World}{o u:AObj}(h:Zcr b keep o u)(r:Jc M m w o):Jc M' m w u:=by
 cases o with
 |cells n t e g fz ro mk=>
  obtain⟨t',rfl,ht⟩:=h
  obtain⟨cur,e',lo,hi,h1,h2,h3,h4,h5,h6,h7⟩:=r
  refine⟨cur,e',lo,hi,h1,h2,h3,h4,h5,h6,fun i v hv=>?_⟩
  obtain⟨x,hx,hr⟩:=ht i v hv
  obtain⟨a,cv,b,c⟩:=h7 i x hx
  exact⟨a,cv,b,Kp hM _ _ _ hr c⟩
 |loop st p n t ps asz bo d=>
  obtain⟨t',d',rfl,hd,ht⟩:=h
  obtain⟨L,h1,h2,h3,h4,h5,h6,h7,h8,dd,h9,h10⟩:=r
  refine⟨L,h1,h2,h3,h4,h5,h6,h7,fun i v hv=>?_,dd,by rw[Zb7 hM hd];exact h9,h10⟩
  obtain⟨x,hx,hr⟩:=ht i v hv
  obtain⟨cv,b,c⟩:=h8 i x hx
  exact⟨cv,b,Kp hM _ _ _ hr c⟩
 |siter s p=>obtain rfl:=h;exact r
 |dfr=>obtain rfl:=h;exact r
 |mp es clock=>
  obtain⟨es',rfl,he⟩:=h
  obtain⟨ces,h1,h2⟩:=r
  exact⟨ces,h1,Z0x hM he h2⟩
 |miter mi since seen last=>
  obtain⟨m',rfl,he⟩:=h
  obtain⟨c,h1,h2,h3⟩:=r
  exact⟨c,h1,h2,Yg4 hM he h3⟩
theorem Zcr.ro{b:Nat}{keep:List Nat}{o u:AObj}(h:Zcr b keep o u):u.isRo=o.isRo:=by
 cases o with
 |cells n t e g fz ro mk=>obtain⟨t',rfl,_⟩:=h;rfl
 |loop=>obtain⟨t',d',rfl,_⟩:=h;rfl
 |siter s p=>obtain rfl:=h;rfl
 |dfr=>obtain rfl:=h;rfl
 |mp es clock=>obtain⟨_,rfl,_⟩:=h;rfl
 |miter=>obtain⟨_,rfl,_⟩:=h;rfl
structure Ren(ng:Nat)(keep:List Nat)(fr:AFr)(H:AHeap)(fr':AFr)(H':AHeap):Prop where
 glob:∀ g,g<ng→keep[g]?=some g
 lt:∀ i∈keep,i<H.next
 nodup:keep.Nodup
 next:H'.next=keep.length
 obj:∀ k u,H'.get k=some u→∃ i o,keep[k]?=some i∧H.get i=some o∧Zcr 0 keep o u
 n:fr'.n=fr.n
 rd:fr'.rd=fr.rd
 df:fr.df=[]∧fr'.df=[]
 t:∀ i y,fr'.t.get i=some y→∃ x,fr.t.get i=some x∧rnV 0 keep x=some y
def Zk8(keep:List Nat)(M:List MEnt):List MEnt:=keep.map fun i=>(M[i]?).getD ⟨0,0,0,0⟩
theorem Zz6{keep:List Nat}{M:List MEnt}(h:∀ i∈keep,i<M.length):Zy7 0 keep M (Zk8 keep M):=by
 intro k i hk
 rw[Nat.zero_add]
 unfold Zk8
 rw[List.getElem?_map,hk]
 have:=h i (List.mem_of_getElem? hk)
 rw[List.getElem?_eq_getElem this]
 simp[List.getElem?_eq_getElem this]
structure Carried(I:List MEnt→AHeap→World→Prop):Prop where
 ext:∀ M H w M' H' w',I M H w→Ext M H w M' H' w'→I M' H' w'
 ren:∀ M H w M' H',I M H w→HRel M H w→HRel M' H' w→(∀ b,Wr M' H' b→Wr M H b)→I M' H' w
section
variable {E:Env} {P:Program} {I:List MEnt→AHeap→World→Prop} {ih:Task→Option TRes} {ro:Option Nat}
theorem Ren.to(hI:Carried I){keep:List Nat}{fr fr':AFr}{H H':AHeap}(r:Ren E.ng keep fr H fr' H'){M:List MEnt}{w:World}{a:Act}(st:St E I M H w)(hf:FRel ro M fr a):∃ M',St E I M' H' w∧FRel ro M' fr' a:=by
 have hlt:∀ i∈keep,i<M.length:=fun i hi=>by rw[st.hr.len];exact r.lt i hi
 have hM:=Zz6 hlt
 have at_:∀ k i,keep[k]?=some i→(Zk8 keep M)[k]?=M[i]?:=fun k i h=>by have:=hM k i h;rwa [Nat.zero_add] at this
 have inj:∀ k l i:Nat,keep[k]?=some i→keep[l]?=some i→k=l:=fun k l i hk hl=>by
  have hk':=(List.getElem?_eq_some_iff.1 hk)
  have hl':=(List.getElem?_eq_some_iff.1 hl)
  exact(List.getElem?_inj hk'.1 r.nodup).1 (hk.trans hl.symm)
 have hr:HRel (Zk8 keep M) H' w:=by
  refine⟨by simp[Zk8,r.next],fun k u hu=>?_,fun k l u v m p hu hv hm hp hkl hb=>?_⟩
  ·obtain⟨i,o,e1,e2,e3⟩:=r.obj k u hu
   obtain⟨m,hm,ho⟩:=st.hr.obj i o e2
   exact⟨m,by rw[at_ k i e1];exact hm,e3.rel hM ho⟩
  ·obtain⟨i,o,e1,e2,e3⟩:=r.obj k u hu
   obtain⟨j,q,f1,f2,f3⟩:=r.obj l v hv
   rw[at_ k i e1] at hm
   rw[at_ l j f1] at hp
   have hij:i≠j:=fun e=>by subst e;exact hkl (inj k l i e1 f1)
   obtain⟨z1,z2⟩:=st.hr.inj i j o q m p e2 f2 hm hp hij hb
   exact⟨by rw[e3.ro];exact z1,by rw[f3.ro];exact z2⟩
 refine⟨Zk8 keep M,⟨hr,fun g hg=>?_,hI.ren _ _ _ _ _ st.i st.hr hr fun b hb=>?_⟩,⟨by rw[r.rd];exact hf.rd,by rw[r.n];exact hf.n,fun i y hy=>?_,?_⟩⟩
 ·obtain⟨m,hm,h2⟩:=st.g g hg
  exact⟨m,by rw[at_ g g (r.glob g hg)];exact hm,h2⟩
 ·obtain⟨k,u,m,e,hro,hm,rfl⟩:=hb
  obtain⟨i,o,e1,e2,e3⟩:=r.obj k u e
  rw[at_ k i e1] at hm
  exact⟨i,o,m,e2,by rw[←e3.ro];exact hro,hm,rfl⟩
 ·obtain⟨x,hx,hxy⟩:=r.t i y hy
  obtain⟨cv,hc,hv⟩:=hf.t i x hx
  exact⟨cv,hc,Kp hM _ _ _ hxy hv⟩
 ·have:=hf.df
  rw[r.df.1] at this
  rw[r.df.2]
  generalize a.defers=l at this ⊢
  cases this
  exact .nil
abbrev TQ:=AExit→AFr→AHeap→Prop
def Zyr(E:Env)(I:List MEnt→AHeap→World→Prop)(ro:Option Nat)(Q:TQ)(ex:Exit)(a:Act)(w:World):Prop:=
 ∃ e fr H M,Q e fr H∧St E I M H w∧Q4 M e ex∧FRel ro M fr a
def Tri(E:Env)(P:Program)(I:List MEnt→AHeap→World→Prop)(ro:Option Nat)(c:Code)(fr:AFr)(H:AHeap)(Q:TQ):Prop:=
 ∀ M w a,St E I M H w→FRel ro M fr a→c.wpIn (FF ro) 0 P (Zyr E I ro Q) a w
theorem Tri.mono{c:Code}{fr:AFr}{H:AHeap}{Q Q':TQ}(h:Tri E P I ro c fr H Q)(hq:∀ e fr H,Q e fr H→Q' e fr H):Tri E P I ro c fr H Q':=by
 intro M w a st hf
 refine wpIn_mono (h M w a st hf) ?_
 rintro ex a1 w1 ⟨e,fr1,H1,M1,q,r⟩
 exact⟨e,fr1,H1,M1,hq _ _ _ q,r⟩
theorem Tri.run(hE:EnvOk E P I)(hs:Sound E P I ih){c:Code}{fr:AFr}{H:AHeap}{e:AExit}{fr':AFr}{H':AHeap}{Q:TQ}(h:Y3 E ih c fr H=some (.code e fr' H'))(hq:Q e fr' H'):Tri E P I ro c fr H Q:=by
 intro M w a st hf
 refine wpIn_mono (Vb hE hs c fr H e fr' H' M w a h st hf) ?_
 rintro ex a1 w1 ⟨M1,x1,x2,x3,x4⟩
 exact⟨e,fr',H',M1,hq,st.next hE x1 x2,x3,x4⟩
theorem Tri.ren(hI:Carried I){c:Code}{keep:List Nat}{fr fr':AFr}{H H':AHeap}{Q:TQ}(r:Ren E.ng keep fr H fr' H')(h:Tri E P I ro c fr' H' Q):Tri E P I ro c fr H Q:=by
 intro M w a st hf
 obtain⟨M',s2,f2⟩:=r.to hI st hf
 exact h M' w a s2 f2
theorem Q4.normal{M:List MEnt}{e:AExit}{x:Exit}(h:Q4 M e x):e=.normal↔x=.normal:=by
 cases e with
 |normal=>simp only[Q4] at h;simp[h]
 |exit i=>simp only[Q4] at h;simp[h]
 |ret=>simp only[Q4] at h;simp[h]
 |panic v=>obtain⟨cv,rfl,_⟩:=h;simp
theorem Tri.seq{a b:Code}{fr:AFr}{H:AHeap}{Q:TQ}(h:Tri E P I ro a fr H fun e fr' H'=>(e=.normal∧Tri E P I ro b fr' H' Q)∨(e≠.normal∧Q e fr' H')):Tri E P I ro (.seq a b) fr H Q:=by
 intro M w x st hf
 refine wpIn_seq (wpIn_mono (h M w x st hf) ?_)
 rintro ex a1 w1 ⟨e,fr1,H1,M1,q,s1,er,f1⟩
 rcases q with⟨rfl,q⟩|⟨hne,q⟩
 ·simp only[Q4] at er;subst er
  exact q M1 w1 a1 s1 f1
 ·have post:Zyr E I ro Q ex a1 w1:=⟨e,fr1,H1,M1,q,s1,er,f1⟩
  cases e with
  |normal=>exact absurd rfl hne
  |exit i=>simp only[Q4] at er;subst er;exact post
  |ret=>simp only[Q4] at er;subst er;exact post
  |panic v=>obtain⟨cv,rfl,_⟩:=er;exact post
theorem Tri.cond{c:Operand}{a b:Code}{fr:AFr}{H:AHeap}{Q:TQ}{x:Bool}(hc:Vk E fr.t c=some (.bool x))(h:Tri E P I ro (bif x then a else b) fr H Q):Tri E P I ro (.cond c a b) fr H Q:=by
 intro M w act st hf
 have:=Z0 st.g hf.t hc
 simp only[Zm] at this
 cases x with
 |true=>exact wpIn_cond_true this (h M w act st hf)
 |false=>exact wpIn_cond_false this (h M w act st hf)
def Yy5(id:Nat):AExit→AExit
 |.exit i=>bif Nat.beq i id then .normal else .exit i
 |e=>e
theorem Tri.block{id:Nat}{c:Code}{fr:AFr}{H:AHeap}{Q:TQ}(h:Tri E P I ro c fr H fun e fr' H'=>Q (Yy5 id e) fr' H'):Tri E P I ro (.block id c) fr H Q:=by
 intro M w x st hf
 refine wpIn_block (wpIn_mono (h M w x st hf) ?_)
 rintro ex a1 w1 ⟨e,fr1,H1,M1,q,s1,er,f1⟩
 cases e with
 |normal=>simp only[Q4] at er;subst er;exact⟨_,fr1,H1,M1,q,s1,rfl,f1⟩
 |ret=>simp only[Q4] at er;subst er;exact⟨_,fr1,H1,M1,q,s1,rfl,f1⟩
 |panic v=>
  have er':=er
  obtain⟨cv,rfl,_⟩:=er
  exact⟨_,fr1,H1,M1,q,s1,er',f1⟩
 |exit i=>
  simp only[Q4] at er;subst er
  simp only[Yy5,Bool.cond_eq_ite,Nat.beq_eq] at q
  simp only[Exit.inBlock]
  split
  ·rename_i hi
   rw[if_pos hi] at q
   exact⟨_,fr1,H1,M1,q,s1,rfl,f1⟩
  ·rename_i hi
   rw[if_neg hi] at q
   exact⟨_,fr1,H1,M1,q,s1,rfl,f1⟩
theorem Tri.loop{X:Type}{c:Code}{fr:X→AFr}{H:X→AHeap}{Inv:X→Prop}(meas:X→Nat){Q:TQ}(hI:Carried I)
  (body:∀ x,Inv x→Tri E P I ro c (fr x) (H x) fun e fr' H'=>(e=.normal∧∃ x' keep,Inv x'∧meas x'<meas x∧Ren E.ng keep fr' H' (fr x') (H x'))∨(e≠.normal∧Q e fr' H')) :
  ∀ x,Inv x→Tri E P I ro (.loop c) (fr x) (H x) Q:=by
 intro x hx M w a st hf
 refine Zmp ?_
 have main:∀(n:Nat)(x:X),meas x=n→Inv x→∀ M w a,St E I M (H x) w→FRel ro M (fr x) a→Zlf (FF ro) P c (Zyr E I ro Q) a w:=by
  intro n
  induction n using Nat.strongRecOn with
  |_ n ihn=>
   intro x hn hx M w a st hf
   refine Zk9 (wpIn_mono (body x hx M w a st hf) ?_)
   rintro ex a1 w1 ⟨e,fr1,H1,M1,q,s1,er,f1⟩
   rcases q with⟨rfl,x',keep,i',hm,hr⟩|⟨hne,q⟩
   ·simp only[Q4] at er;subst er
    obtain⟨M2,s2,f2⟩:=hr.to hI s1 f1
    exact ihn (meas x') (by omega) x' rfl i' M2 w1 a1 s2 f2
   ·have post:Zyr E I ro Q ex a1 w1:=⟨e,fr1,H1,M1,q,s1,er,f1⟩
    cases e with
    |normal=>exact absurd rfl hne
    |exit i=>simp only[Q4] at er;subst er;exact post
    |ret=>simp only[Q4] at er;subst er;exact post
    |panic v=>obtain⟨cv,rfl,_⟩:=er;exact post
 exact main _ x rfl hx M w a st hf
end
end Go.Vai
end
section
namespace Go.Vai
noncomputable section
theorem Ym{α:Type}(x y:α):bc true x y=x:=rfl
theorem Yg{α:Type}(x y:α):bc false x y=y:=rfl
def isB:Option AV→Bool
 |some (.bool _)=>true
 |_=>false
def asB:Option AV→Bool
 |some (.bool b)=>b
 |_=>false
def Vs(k:IntKind):Option AV→Bool
 |some (.int j _)=>sameKind j k
 |_=>false
def Zl:Option AV→Int
 |some (.int _ n)=>n
 |_=>0
def isS:Option AV→Bool
 |some (.str _)=>true
 |_=>false
def asS:Option AV→List UInt8
 |some (.str s)=>s
 |_=>[]
def isN:Option AV→Bool
 |some .nils=>true
 |_=>false
def Y53:Option AV→Bool
 |some (.sl _ _ _ _)=>true
 |_=>false
def slI:Option AV→Nat
 |some (.sl i _ _ _)=>i
 |_=>0
def slO:Option AV→Nat
 |some (.sl _ o _ _)=>o
 |_=>0
def slN:Option AV→Nat
 |some (.sl _ _ n _)=>n
 |_=>0
def slC:Option AV→Option Nat
 |some (.sl _ _ _ c)=>c
 |_=>none
section
variable {α:Type}
def ldK:AV→Option AV→(AV→Option α)→Option α
 |.bool _=>fun x k=>bc (isB x) (k (.bool (asB x))) none
 |.int kd _=>fun x k=>bc (Vs kd x) (k (.int kd (Zl x))) none
 |.str _=>fun x k=>bc (isS x) (k (.str (asS x))) none
 |.nils=>fun x k=>bc (Y53 x) (k (.sl (slI x) (slO x) (slN x) (slC x))) (bc (isN x) (k .nils) none)
 |_=>fun x k=>ob x k
theorem Y0{b:Bool}{x y:Option α}{r:α}(h:bc b x y=some r):(b=true∧x=some r)∨(b=false∧y=some r):=by
 cases b
 ·exact .inr ⟨rfl,h⟩
 ·exact .inl ⟨rfl,h⟩
theorem Zo{b:Bool}{x:Option α}{r:α}(h:bc b x none=some r):b=true∧x=some r:=by
 rcases Y0 h with h|⟨_,h⟩
 ·exact h
 ·cases h
theorem Zq{β:Type}{x:Option β}{f:β→Option α}{r:α}(h:ob x f=some r):∃ v,x=some v∧f v=some r:=by
 cases x with
 |none=>cases h
 |some v=>exact⟨v,rfl,h⟩
theorem Zzs{z:AV}{x:Option AV}{k:AV→Option α}{r:α}(h:ldK z x k=some r):∃ v,x=some v∧k v=some r:=by
 unfold ldK at h
 split at h
 ·obtain⟨h1,h2⟩:=Zo h
  unfold isB at h1
  split at h1
  ·rename_i b;exact⟨.bool b,rfl,h2⟩
  ·cases h1
 ·rename_i kd _
  obtain⟨h1,h2⟩:=Zo h
  unfold Vs at h1
  split at h1
  ·rename_i j n
   rw[W6] at h1
   subst h1
   exact⟨.int j n,rfl,h2⟩
  ·cases h1
 ·obtain⟨h1,h2⟩:=Zo h
  unfold isS at h1
  split at h1
  ·rename_i s;exact⟨.str s,rfl,h2⟩
  ·cases h1
 ·rcases Y0 h with⟨h1,h2⟩|⟨_,h⟩
  ·unfold Y53 at h1
   split at h1
   ·rename_i i o n c;exact⟨.sl i o n c,rfl,h2⟩
   ·cases h1
  ·obtain⟨h1,h2⟩:=Zo h
   unfold isN at h1
   split at h1
   ·exact⟨.nils,rfl,h2⟩
   ·cases h1
 ·exact Zq h
def Y48(c:Tr AV)(zs:List AV):Nat→(List AV→Option α)→Option α:=
 List.rec (motive:=fun _=>Nat→(List AV→Option α)→Option α) (fun _ k=>k []) (fun z _ ih off k=>ldK z (c.get off) fun v=>ih (Nat.succ off) fun vs=>k (v::vs)) zs
theorem Ybq{c:Tr AV}:∀{zs:List AV}{off:Nat}{k:List AV→Option α}{r:α},Y48 c zs off k=some r→∃ vs,c.getAll off zs.length=some vs∧k vs=some r:=by
 intro zs
 induction zs with
 |nil=>intro off k r h;exact⟨[],rfl,h⟩
 |cons z zs ih=>
  intro off k r h
  have h':(ldK z (c.get off) fun v=>Y48 c zs (off+1) fun vs=>k (v::vs))=some r:=h
  obtain⟨v,hv,h2⟩:=Zzs h'
  obtain⟨vs,hvs,h3⟩:=ih h2
  refine⟨v::vs,?_,h3⟩
  rw[List.length_cons,Tr.getAll_succ,hv]
  simp only[hvs]
def Ziw(o:Option AObj)(k:Tr AV→Option α):Option α:=
 match o with
 |some (.cells _ c _ _ _ _ _)=>k c
 |_=>none
def loadT(ti:ATy)(off:Nat)(k:AV→Option α)(c:Tr AV):Option α:=
 bc ti.agg (bc (Nat.beq ti.zero.length ti.size) (Y48 c ti.zero off fun l=>k (.agg l)) none) (match ti.zero with | [z]=>ldK z (c.get off) k | _=>ob (c.get off) k)
def Zo6(E:Env)(H:AHeap)(t:TypeId)(k:AV→Option α):AV→Option α
 |.ptr id off=>ob (E.ty t) fun ti=>Ziw (H.get id) (loadT ti off k)
 |_=>none
theorem Zmy{E:Env}{H:AHeap}{t:TypeId}{k:AV→Option α}{p:AV}{r:α}(h:Zo6 E H t k p=some r):∃ v,Kw E H t p=some v∧k v=some r:=by
 cases p <;> try (cases h;done)
 rename_i id off
 simp only[Zo6] at h
 replace h:=Zq h
 obtain⟨ti,ht,h⟩:=h
 unfold Ziw at h
 split at h
 case h_2=>cases h
 rename_i n c e g fz ro mk hget
 simp only[Kw,ht,hget]
 unfold loadT at h
 rcases Y0 h with⟨h1,h⟩|⟨h1,h⟩
 ·obtain⟨hb,h⟩:=Zo h
  rw[Nat.beq_eq] at hb
  obtain⟨vs,hvs,h2⟩:=Ybq h
  rw[hb] at hvs
  exact⟨.agg vs,by rw[h1];simp[hvs],h2⟩
 ·have hx:∃ v,c.get off=some v∧k v=some r:=by
   split at h
   ·exact Zzs h
   ·exact Zq h
  obtain⟨v,hv,h2⟩:=hx
  exact⟨v,by rw[h1];simp[hv],h2⟩
abbrev KF(α:Type):=Env→AHeap→Tr AV→(ARes→Option α)→Option α
def Yzm(c a b:Operand):KF α:=fun E H fr k=>ob (Wy E fr c) fun v=>match v with
 |.bool t=>bc t (ob (Wy E fr a) fun v=>k (.val v H)) (ob (Wy E fr b) fun v=>k (.val v H))
 |_=>none
def Yze(t:TypeId)(a:Operand):KF α:=fun E H fr k=>ob (Wy E fr a) fun p=>Zo6 E H t (fun v=>k (.val v H)) p
def stK(H:AHeap)(ti:ATy)(id off:Nat)(vs:List AV)(k:ARes→Option α):Option AObj→Option α
 |some (.cells n c e g fz ro mk)=>bc (Nat.beq vs.length ti.size&&vs.all AV.one) (bc (Nat.ble (off+ti.size) n) (bc (Nat.ble fz off&&!ro) (k (.skip (H.put id (.cells n (c.putAll off vs) e g fz ro mk)))) none) none) none
 |_=>none
def Yo3(t:TypeId)(a x:Operand):KF α:=fun E H fr k=>ob (Wy E fr a) fun p=>ob (Wy E fr x) fun v=>match p with
 |.ptr id off=>ob (E.ty t) fun ti=>stK H ti id off v.cells k (H.get id)
 |_=>none
def Yur(ei:ATy)(id off len:Nat)(i:Int)(H:AHeap)(k:ARes→Option α):Option α:=
 bc (Z2 i 0) none (bc (Nat.blt i.toNat len) (k (.val (.ptr id (Nat.add off (Nat.mul i.toNat ei.size))) H)) none)
def Zpd(t:TypeId)(x i:Operand):KF α:=fun E H fr k=>ob (Wy E fr x) fun a=>ob (Wy E fr i) fun b=>ob (E.ty t) fun ti=>match ti.d,a,b with
 |.array n e,.ptr id off,.int _ i=>ob (E.ty e) fun ei=>Yur ei id off n i H k
 |.slice e,.sl id off len _,.int _ i=>ob (E.ty e) fun ei=>Yur ei id off len i H k
 |_,_,_=>none
def Zw5(s:List UInt8)(i:Nat):UInt8:=(nth s i).getD 0
def Ypd(t:TypeId)(x i:Operand):KF α:=fun E H fr k=>ob (Wy E fr x) fun a=>ob (Wy E fr i) fun b=>ob (E.ty t) fun ti=>match ti.d,a,b with
 |.str,.str s,.int _ i=>bc (Z2 i 0) none (bc (Nat.blt i.toNat (Zv s)) (k (.val (Z3 (Zw5 s i.toNat)) H)) none)
 |_,_,_=>ob (Zcb E t a b) fun v=>k (.val v H)
def Ykh(top:Nat)(k:Nat→Option α):AV→Option α
 |.int _ i=>bc (Z2 i 0) none (bc (Nat.ble i.toNat top) (k i.toNat) none)
 |_=>none
def loK(h:Nat)(k:Nat→Option α):Option AV→Option α
 |some v=>Ykh h k v
 |none=>k 0
def hiK(len top:Nat)(k:Nat→Option α):Option AV→Option α
 |some v=>Ykh top k v
 |none=>k len
def cn(b:Bool)(x y:Nat):Nat:=Bool.rec (motive:=fun _=>Nat) y x b
def Y02(id off size h l c:Nat)(H:AHeap)(k:ARes→Option α):Option α:=
 k (.val (.sl id (cn (Nat.beq c l) off (Nat.add off (Nat.mul l size))) (Nat.sub h l) (some (Nat.sub c l))) H)
def Z9j(ei:ATy)(id off len:Nat)(hi lo:Option AV)(H:AHeap)(k:ARes→Option α):Option AObj→Option α
 |some (.cells n _ _ (some gs) _ _ _)=>bc (Nat.beq gs ei.size&&!(Nat.beq gs 0)) (bc (Nat.ble (Nat.add off (Nat.mul len gs)) n) (hiK len (Nat.div (Nat.sub n off) gs) (fun h=>loK h (fun l=>bc (Nat.blt (Nat.add off (Nat.mul l gs)) n||Nat.beq l 0) (k (.val (.sl id (Nat.add off (Nat.mul l gs)) (Nat.sub h l) none) H)) (k (.val .sl0 H))) lo) hi) none) none
 |_=>none
def Yjk(t:TypeId)(x:Operand)(lo hi mx:Option Operand):KF α:=fun E H fr k=>ob (Wy E fr x) fun a=>ob (Zsc E fr lo) fun l=>ob (Zsc E fr hi) fun h=>ob (Zsc E fr mx) fun m=>ob (E.ty t) fun ti=>match ti.d,a,m with
 |.str,.str s,none=>(match h with
   |none=>loK (Zv s) (fun l=>k (.val (.str (s.drop l)) H)) l
   |some hv=>Ykh (Zv s) (fun h=>loK h (fun l=>k (.val (.str ((s.drop l).take (Nat.sub h l))) H)) l) hv)
 |.slice e,.sl id off len (some c),none=>ob (E.ty e) fun ei=>hiK len c (fun h=>loK h (fun l=>Y02 id off ei.size h l c H k) l) h
 |.slice e,.sl id off len none,none=>ob (E.ty e) fun ei=>Z9j ei id off len h l H k (H.get id)
 |_,_,_=>ob (Zdi E H t a l h m) fun v=>k (.val v H)
def Yzo(t:TypeId)(l c:Operand):KF α:=fun E H fr k=>ob (Wy E fr l) fun a=>ob (Wy E fr c) fun b=>ob (E.ty t) fun ti=>match ti.d,a,b with
 |.slice e,.int _ l,.int _ c=>ob (E.ty e) fun ei=>bc (Z2 l 0) none (bc (Z2 c l) none (bc (Vz c.toNat (ei.bytes+ei.size)) (k (.val (.sl H.next 0 l.toNat (some c.toNat)) (Vo H e (rep ei.zero c.toNat)))) none))
 |_,_,_=>none
def Y9z:BinOp→Bool
 |.add=>true
 |_=>false
def Zf(a:Int)(n:Nat):Int:=Int.mul a (Int.ofNat (Nat.pow 2 n))
def Zc(a:Int)(n:Nat):Int:=Int.fdiv a (Int.ofNat (Nat.pow 2 n))
def Ze(kd:IntKind)(a b:Int):Int:=Int.ofNat (Nat.land (bitsOf kd a) (bitsOf kd b))
def Zw(kd:IntKind)(a b:Int):Int:=Int.ofNat (Nat.lor (bitsOf kd a) (bitsOf kd b))
def Y9n(kd:IntKind)(a b:Int):Int:=Int.ofNat (Nat.xor (bitsOf kd a) (bitsOf kd b))
def Wk(kd:IntKind)(a b:Int):Int:=Int.ofNat (Nat.land (bitsOf kd a) (Nat.xor (2 ^ kd.bits - 1) (bitsOf kd b)))
def Yra(op:BinOp)(kd kd':IntKind)(a b:Int)(k:AV→Option α):Option α:=
 match op with
 |.shl=>bc (Z2 b 0) none (k (.int kd (Za kd (Zf a (Nat.min b.toNat kd.bits)))))
 |.shr=>bc (Z2 b 0) none (k (.int kd (Zc a (Nat.min b.toNat kd.bits))))
 |.quo=>bc (sameKind kd kd') (bc (Zd b 0) none (k (.int kd (Za kd (Int.tdiv a b))))) none
 |.rem=>bc (sameKind kd kd') (bc (Zd b 0) none (k (.int kd (Int.tmod a b)))) none
 |.and=>bc (sameKind kd kd') (k (.int kd (Za kd (Ze kd a b)))) none
 |.or=>bc (sameKind kd kd') (k (.int kd (Za kd (Zw kd a b)))) none
 |.xor=>bc (sameKind kd kd') (k (.int kd (Za kd (Y9n kd a b)))) none
 |.andNot=>bc (sameKind kd kd') (k (.int kd (Za kd (Wk kd a b)))) none
 |op=>bc (sameKind kd kd') (ob (Z86 op kd a b) k) none
theorem Z8u(n:Nat):(2:Int) ^ n=Int.ofNat (Nat.pow 2 n):=by
 show _=((2 ^ n:Nat):Int)
 rw[Int.natCast_pow];rfl
theorem Z3f{op:BinOp}{kd kd':IntKind}{a b:Int}{k:AV→Option α}{r:α}(E:Env)(t:TypeId)(h:Yra op kd kd' a b k=some r):∃ v,Zbv E op t (.int kd a) (.int kd' b)=some v∧k v=some r:=by
 have same:∀{x:Option α},bc (sameKind kd kd') x none=some r→kd=kd'∧x=some r:=fun h=>by
  obtain⟨h1,h2⟩:=Zo h
  exact⟨(W6 _ _).1 h1,h2⟩
 have sk:∀ k:IntKind,sameKind k k=true:=fun k=>(W6 _ _).2 rfl
 cases op <;> simp only[Yra] at h
 case shl=>
  rcases Y0 h with⟨_,h⟩|⟨h1,h⟩
  ·cases h
  ·refine⟨_,?_,h⟩
   simp only[Zbv,Zd5,h1,cond_false,Jg,Zf]
   rw[Z8u];rfl
 case shr=>
  rcases Y0 h with⟨_,h⟩|⟨h1,h⟩
  ·cases h
  ·refine⟨_,?_,h⟩
   simp only[Zbv,Zd5,h1,cond_false,Zc]
   rw[Z8u]
 case quo=>
  obtain⟨e,h2⟩:=same h;clear h;subst e
  rcases Y0 h2 with⟨_,h⟩|⟨h1,h⟩
  ·cases h
  ·exact⟨_,by simp only[Zbv,sk,cond_true,Q3,h1,cond_false,Jg],h⟩
 case rem=>
  obtain⟨e,h2⟩:=same h;clear h;subst e
  rcases Y0 h2 with⟨_,h⟩|⟨h1,h⟩
  ·cases h
  ·exact⟨_,by simp only[Zbv,sk,cond_true,Q3,h1,cond_false],h⟩
 case and=>obtain⟨e,h2⟩:=same h;clear h;subst e;exact⟨_,by simp only[Zbv,sk,cond_true,Q3,Jg,Ze];rfl,h2⟩
 case or=>obtain⟨e,h2⟩:=same h;clear h;subst e;exact⟨_,by simp only[Zbv,sk,cond_true,Q3,Jg,Zw];rfl,h2⟩
 case xor=>obtain⟨e,h2⟩:=same h;clear h;subst e;exact⟨_,by simp only[Zbv,sk,cond_true,Q3,Jg,Y9n];rfl,h2⟩
 case andNot=>obtain⟨e,h2⟩:=same h;clear h;subst e;exact⟨_,by simp only[Zbv,sk,cond_true,Q3,Jg,Wk];rfl,h2⟩
 all_goals
  obtain⟨e,h2⟩:=same h;clear h;subst e
  obtain⟨v,hv,h⟩:=Zq h2
  rw[Z0o] at hv
  exact⟨v,by simp only[Zbv,sk,cond_true];exact hv,h⟩
def Z8s(E:Env)(asz bs:List AV):List (Nat×Nat)→Option Bool
 |[]=>some true
 |(o,ft)::fs=>match K8 E ft asz o,K8 E ft bs o with
  |some x,some y=>(match eqv E 5 ft x y,Z8s E asz bs fs with
   |some b,some c=>some (b&&c)
   |some b,none=>bif b then none else some false
   |none,_=>none)
  |_,_=>none
theorem Zz9(E:Env)(asz bs:List AV):∀ l:List (Nat×Nat),Z8s E asz bs l=Z35 E (eqv E 5) asz bs l
 |[]=>rfl
 |(o,ft)::fs=>by
  simp only[Z8s,Z35]
  rw[Zz9 E asz bs fs]
  cases K8 E ft asz o with
  |none=>rfl
  |some x=>
   cases K8 E ft bs o with
   |none=>rfl
   |some y=>
    simp only
    cases eqv E 5 ft x y with
    |none=>rfl
    |some b=>cases b <;> cases Z35 E (eqv E 5) asz bs fs <;> rfl
def isEq:BinOp→Bool
 |.eql=>true
 |_=>false
def isNe:BinOp→Bool
 |.neq=>true
 |_=>false
def Yls(E:Env)(H:AHeap)(op:BinOp)(t:TypeId)(k:ARes→Option α)(asz bs:List AV):Option α:=ob (E.ty t) fun ti=>match ti.d with
 |.struct fs eqok=>bc eqok (ob (Z8s E asz bs fs) fun e=>bc (isEq op) (k (.val (.bool e) H)) (bc (isNe op) (k (.val (.bool (!e)) H)) none)) none
 |_=>none
theorem Z19{E:Env}{H:AHeap}{op:BinOp}{t:TypeId}{x y:Operand}{k:ARes→Option α}{asz bs:List AV}{r:α}(h:Yls E H op t k asz bs=some r):ob (Zqv E H op t x y (.agg asz) (.agg bs)) k=some r:=by
 unfold Yls at h
 obtain⟨ti,ht,h⟩:=Zq h
 split at h
 case h_2=>cases h
 rename_i fs eqok hd
 obtain⟨h1,h⟩:=Zo h
 obtain⟨e,he,h⟩:=Zq h
 rw[Zz9] at he
 have hv:eqv E 6 t (.agg asz) (.agg bs)=some e:=by
  simp only[eqv,ht,hd,h1,cond_true]
  exact he
 rcases Y0 h with⟨ho,h2⟩|⟨_,h2⟩
 ·obtain rfl:op=.eql:=by cases op <;> first | rfl | cases ho
  have e2:Zqv E H .eql t x y (.agg asz) (.agg bs)=some (.val (.bool e) H):=by
   show(ob (Z9v E .eql t (.agg asz) (.agg bs)) fun v=>rv H v)=_
   rw[Zkm]
   simp only[Zbv,hv]
   rfl
  rw[e2];exact h2
 ·obtain⟨ho,h3⟩:=Zo h2
  obtain rfl:op=.neq:=by cases op <;> first|rfl|cases ho
  have e2:Zqv E H .neq t x y (.agg asz) (.agg bs)=some (.val (.bool (!e)) H):=by
   show(ob (Z9v E .neq t (.agg asz) (.agg bs)) fun v=>rv H v)=_
   rw[Zkm]
   simp only[Zbv,hv]
   rfl
  rw[e2];exact h3
def Yrz(E:Env)(H:AHeap)(op:BinOp)(t:TypeId)(x y:Operand)(k:ARes→Option α):AV→AV→Option α
 |.str a,.str b=>bc (Y9z op) (bc (Nat.ble (Nat.add (Zv a) (Zv b)) 1099511627776) (k (.val (.str (a++b)) H)) none) (ob (Zqv E H op t x y (.str a) (.str b)) k)
 |.int kd a,.int kd' b=>Yra op kd kd' a b fun v=>k (.val v H)
 |.agg asz,.agg bs=>Yls E H op t k asz bs
 |a,b=>ob (Zqv E H op t x y a b) k
theorem Z6s{E:Env}{H:AHeap}{op:BinOp}{t:TypeId}{x y:Operand}{k:ARes→Option α}{a b:AV}{r:α}(h:Yrz E H op t x y k a b=some r):ob (Zqv E H op t x y a b) k=some r:=by
 unfold Yrz at h
 split at h
 ·rename_i a b
  rcases Y0 h with⟨ho,h2⟩|⟨_,h2⟩
  ·obtain⟨h1,h3⟩:=Zo h2
   obtain rfl:op=.add:=by cases op <;> first|rfl|cases ho
   have h1':Nat.ble (Zv a+Zv b) 1099511627776=true:=h1
   have e:Zqv E H .add t x y (.str a) (.str b)=some (.val (.str (a++b)) H):=by
    show(ob (Z9v E .add t (.str a) (.str b)) fun v=>rv H v)=_
    rw[Zkm]
    simp only[Zbv,Zwy,h1',cond_true]
    rfl
   rw[e];exact h3
  ·exact h2
 ·rename_i kd a kd' b
  obtain⟨v,hv,h2⟩:=Z3f E t h
  have e:Zqv E H op t x y (.int kd a) (.int kd' b)=some (.val v H):=by
   show(ob (Z9v E op t (.int kd a) (.int kd' b)) fun v=>rv H v)=_
   rw[Zkm,hv];rfl
  rw[e];exact h2
 ·exact Z19 h
 ·exact h
def kBin(op:BinOp)(t:TypeId)(x y:Operand):KF α:=fun E H fr k=>ob (Wy E fr x) fun a=>ob (Wy E fr y) fun b=>Yrz E H op t x y k a b
def Xc(c:Tr AV)(off n:Nat):Bool:=(c.getAll off n).isSome
def Z5(c:Tr AV)(off n:Nat):List AV:=(c.getAll off n).getD []
theorem Zje{c:Tr AV}{off n:Nat}(h:Xc c off n=true):c.getAll off n=some (Z5 c off n):=by
 unfold Xc at h;unfold Z5
 cases e:c.getAll off n with
 |none=>rw[e] at h;cases h
 |some l=>rfl
def Wq(l:List AV):Bool:=(Q5 l).isSome
def Wb(l:List AV):List UInt8:=(Q5 l).getD []
theorem Yvq{l:List AV}(h:Wq l=true):Q5 l=some (Wb l):=by
 unfold Wq at h;unfold Wb
 cases e:Q5 l with
 |none=>rw[e] at h;cases h
 |some l=>rfl
def Yr7(l:List AV):Bool:=l.all AV.one
def Zlq(H:AHeap)(es n:Nat)(k:List AV→Option α):AV→Option α
 |.nils=>k []
 |.sl0=>bc (Nat.beq n 0) (k []) none
 |.sl id off _ _=>Ziw (H.get id) fun c=>bc (Xc c off (Nat.mul n es)) (k (Z5 c off (Nat.mul n es))) none
 |.str s=>bc (Nat.beq es 1) (k (s.map Z3)) none
 |_=>none
theorem Zda{H:AHeap}{es n:Nat}{k:List AV→Option α}{x:AV}{r:α}(h:Zlq H es n k x=some r)(hn:∀ s,x=.str s→n=Zv s):∃ l,Xq H es n x=some l∧k l=some r:=by
 cases x <;> try (cases h;done)
 case nils=>exact⟨[],rfl,h⟩
 case sl0=>
  obtain⟨h1,h2⟩:=Zo h
  exact⟨[],by simp only[Xq,h1,cond_true],h2⟩
 case sl id off len cap=>
  simp only[Zlq,Ziw] at h
  split at h
  case h_2=>cases h
  rename_i c _ _ _ _ _ hget
  obtain⟨h1,h2⟩:=Zo h
  exact⟨_,by simp only[Xq,hget];exact Zje h1,h2⟩
 case str s=>
  obtain⟨h1,h2⟩:=Zo h
  refine⟨s.map Z3,?_,h2⟩
  have:=hn s rfl
  simp only[Xq,h1,cond_true,this,Zv,List.take_length]
def Yq3(k:Nat→Option α):AV→Option α
 |.nils=>k 0
 |.sl0=>k 0
 |.sl _ _ n _=>k n
 |.str s=>k (Zv s)
 |_=>none
theorem Zgt{k:Nat→Option α}{x:AV}{r:α}(h:Yq3 k x=some r):∃ n,Zfn x=some n∧k n=some r:=by
 cases x <;> first | (cases h;done) | exact⟨_,rfl,h⟩
def Y6u(k:AV→AHeap→Option α)(H:AHeap)(id off len c m es:Nat)(news:List AV):Option AObj→Option α
 |some (.cells n cs e' g fz ro mk)=>bc (Nat.ble (Nat.add off (Nat.mul (Nat.add len m) es)) n) (bc (Nat.ble fz (Nat.add off (Nat.mul len es))&&!ro) (bc (Yr7 news) (k (.sl id off (Nat.add len m) (some c)) (H.put id (.cells n (cs.putAll (Nat.add off (Nat.mul len es)) news) e' g fz ro mk))) none) none) none
 |_=>none
def Yza(k:AV→AHeap→Option α)(H:AHeap)(id off len e m es eb:Nat)(news:List AV):Option AObj→Option α
 |some (.cells n cs e' (some gs) fz false mk)=>bc (Nat.beq off 0&&(Nat.beq gs es&&Nat.beq e e')) (bc (Nat.beq n (Nat.mul len es)) (bc (Nat.ble fz n) (bc (Vz (Nat.add len m) eb) (bc (Yr7 news) (k (.sl H.next 0 (Nat.add len m) none) ((H.kill id).new (.cells (Nat.add n (Nat.mul m es)) (cs.putAll n news) e (some gs) fz false mk))) none) none) none) none) none
 |_=>none
def Ybz(H:AHeap)(e es eb m:Nat)(news:List AV)(k:AV→AHeap→Option α):AV→Option α
 |.nils=>bc (Nat.beq m 0) (k .nils H) (bc (Vz m eb) (k (.sl H.next 0 m none) (H.new (.cells (Nat.mul m es) (Tr.nil.putAll 0 news) e (some es) 0 false false))) none)
 |.sl id off len (some c)=>bc (Nat.ble (Nat.add len m) c) (bc (Nat.beq m 0) (k (.sl id off (Nat.add len m) (some c)) H) (Y6u k H id off len c m es news (H.get id)))
   (bc (Vz (Nat.add len m) eb) (Zlq H es len (fun olds=>k (.sl H.next 0 (Nat.add len m) none) (H.new (.cells (Nat.mul (Nat.add len m) es) (Tr.nil.putAll 0 (olds++news)) e (some es) 0 false false))) (.sl id off len (some c))) none)
 |.sl id off len none=>bc (Nat.beq m 0) (k (.sl id off len none) H) (Yza k H id off len e m es eb news (H.get id))
 |_=>none
theorem Zuj{H:AHeap}{e es eb m:Nat}{news:List AV}{k:AV→AHeap→Option α}{s:AV}{r:α}(h:Ybz H e es eb m news k s=some r):∃ v H',We H e es eb m news s=some (v,H')∧k v H'=some r:=by
 cases s <;> try (cases h;done)
 case nils=>
  simp only[Ybz] at h
  rcases Y0 h with⟨h1,h⟩|⟨h1,h⟩
  ·exact⟨_,_,by simp only[We,h1,cond_true],h⟩
  ·obtain⟨h2,h⟩:=Zo h
   exact⟨_,_,by simp only[We,h1,h2,cond_true,cond_false];rfl,h⟩
 case sl id off len cap=>
  cases cap with
  |some c=>
   simp only[Ybz] at h
   rcases Y0 h with⟨h1,h⟩|⟨h1,h⟩
   ·have h1':Nat.ble (len+m) c=true:=h1
    rcases Y0 h with⟨h2,h⟩|⟨h2,h⟩
    ·exact⟨_,_,by simp only[We,h1',h2,cond_true];rfl,h⟩
    ·unfold Y6u at h
     split at h
     case h_2=>cases h
     rename_i n cs e' g fz ro mk hget
     obtain⟨h3,h⟩:=Zo h
     obtain⟨h4,h⟩:=Zo h
     obtain⟨h5,h⟩:=Zo h
     rw[Bool.and_eq_true] at h4
     have h3':Nat.ble (off+(len+m)*es) n=true:=h3
     have h4':Nat.ble fz (off+len*es)=true:=h4.1
     have h5':news.all AV.one=true:=h5
     exact⟨_,_,by simp only[We,h1',h2,cond_true,cond_false,hget,h3',h4',h4.2,h5',Bool.and_self];rfl,h⟩
   ·have h1':Nat.ble (len+m) c=false:=h1
    obtain⟨h2,h⟩:=Zo h
    have h2':Vz (len+m) eb=true:=h2
    obtain⟨l,hl,h⟩:=Zda h (fun s e=>by cases e)
    exact⟨_,_,by simp only[We,h1',h2',cond_true,cond_false,hl];rfl,h⟩
  |none=>
   simp only[Ybz] at h
   rcases Y0 h with⟨h1,h⟩|⟨h1,h⟩
   ·exact⟨_,_,by simp only[We,h1,cond_true],h⟩
   ·unfold Yza at h
    split at h
    case h_2=>cases h
    rename_i n cs e' gs fz mk hget
    obtain⟨h3,h⟩:=Zo h
    obtain⟨h4,h⟩:=Zo h
    obtain⟨h5,h⟩:=Zo h
    obtain⟨h6,h⟩:=Zo h
    obtain⟨h7,h⟩:=Zo h
    simp only[Bool.and_eq_true] at h3
    have h4':Nat.beq n (len*es)=true:=h4
    have h6':Vz (len+m) eb=true:=h6
    have h7':news.all AV.one=true:=h7
    refine⟨_,_,?_,h⟩
    simp only[We,h1,cond_false,hget,h3.1,h3.2.1,h3.2.2,h4',h5,h6',h7',Bool.and_self,cond_true]
    rfl
def Z9i(E:Env)(H:AHeap)(t:TypeId)(s:AV)(k:AHeap→Option α):Option α:=
 match s with
 |.sl id 0 len none=>match E.ty t with
  |some ti=>match ti.d with
   |.slice e=>match E.ty e,H.get id with
    |some ei,some (.cells n c e' g fz false mk)=>bc (Nat.blt (Nat.mul len ei.size) n) (bc (Nat.ble fz (Nat.mul len ei.size)) (bc (Xc c 0 (Nat.mul len ei.size)) (k (H.put id (.cells (Nat.mul len ei.size) (Tr.nil.putAll 0 (Z5 c 0 (Nat.mul len ei.size))) e' g fz false mk))) none) none) (k H)
    |_,_=>k H
   |_=>k H
  |none=>k H
 |_=>k H
theorem Zps{E:Env}{H:AHeap}{t:TypeId}{s:AV}{k:AHeap→Option α}{r:α}(h:Z9i E H t s k=some r):k (trimS E H t s)=some r:=by
 unfold Z9i at h
 unfold trimS
 split at h
 ·rename_i id len
  cases ht:E.ty t with
  |none=>rw[ht] at h;exact h
  |some ti=>
   rw[ht] at h
   dsimp only at h ⊢
   cases hd:ti.d <;> rw[hd] at h <;> try exact h
   rename_i e
   dsimp only at h ⊢
   split at h
   ·rename_i ei n c e' g fz mk he hget
    simp only[he,hget]
    rcases Y0 h with⟨h1,h⟩|⟨h1,h⟩
    ·obtain⟨h2,h⟩:=Zo h
     obtain⟨h3,h⟩:=Zo h
     have h1':Nat.blt (len*ei.size) n=true:=h1
     have h2':Nat.ble fz (len*ei.size)=true:=h2
     have h3':=Zje h3
     have h3'':c.getAll 0 (len*ei.size)=some (Z5 c 0 (len*ei.size)):=h3'
     simp only[h1',h2',Bool.and_self,cond_true,h3'']
     exact h
    ·have h1':Nat.blt (len*ei.size) n=false:=h1
     simp only[h1',Bool.false_and,cond_false]
     exact h
   ·rename_i hno
    simp only[]
    exact h
 ·rename_i hno
  split
  ·exact absurd rfl (hno _ _)
  ·exact h
def Z9b(ts:List TypeId)(args:List Operand):KF α:=fun E H fr k=>match ts with
 |t::u::_=>ob (Zjc E fr args) fun l=>match l with
  |[s,x]=>ob (E.ty t) fun ti=>match ti.d with
   |.slice e=>ob (E.ty e) fun ei=>bc (Yh0 E u&&!(Nat.beq ei.size 0)) (Z9i E H t s fun H=>Yq3 (fun m=>Zlq H ei.size m (fun news=>Ybz H e ei.size ei.bytes m news (fun v H=>k (.val v H)) s) x) x)
     (bc (Yhq E u&&!(Nat.beq ei.size 0)) (match x with | .int _ n=>bc ((!(Z2 n 0))&&Vz n.toNat (ei.bytes+ei.size)) (Z9i E H t s fun H=>Ybz H e ei.size ei.bytes n.toNat (rep ei.zero n.toNat) (fun v H=>k (.val v H)) s) none | _=>none) none)
   |_=>none
  |_=>none
 |_=>none
def isPU:AD→Bool
 |.ptr _=>true
 |.uptr=>true
 |_=>false
def Y0g:Callee→Bool
 |.builtin .append=>true
 |_=>false
def Ymh(H:AHeap)(es n:Nat)(k:List AV→Option α)(x:AV):Option α:=match x with
 |.str s=>bc (Nat.beq es 1) (k ((s.take n).map Z3)) none
 |x=>Zlq H es n k x
def Yor(H:AHeap)(id off n es:Nat)(news:List AV)(k:AV→AHeap→Option α):Option AObj→Option α
 |some (.cells m c e' g fz ro mk)=>bc (Nat.ble (Nat.add off (Nat.mul n es)) m) (bc (Nat.ble fz off&&!ro) (bc (Yr7 news) (k (.int .i64 (Int.ofNat n)) (H.put id (.cells m (c.putAll off news) e' g fz ro mk))) none) none) none
 |_=>none
def Z6q(H:AHeap)(es n:Nat)(news:List AV)(k:AV→AHeap→Option α):AV→Option α
 |.nils=>k (.int .i64 0) H
 |.sl0=>k (.int .i64 0) H
 |.sl id off _ _=>bc (Nat.beq n 0) (k (.int .i64 0) H) (Yor H id off n es news k (H.get id))
 |_=>none
def cpK(H:AHeap)(es n:Nat)(d s:AV)(k:AV→AHeap→Option α):Option α:=Ymh H es n (fun news=>Z6q H es n news k d) s
theorem Yhw{E:Env}{H:AHeap}{t e:TypeId}{ti ei:ATy}{dn sn n:Nat}{d s:AV}{k:AV→AHeap→Option α}{r:α}(ht:E.ty t=some ti)(hd:ti.d=.slice e)(he:E.ty e=some ei)(h1:Zfn d=some dn)(h2:Zfn s=some sn)(hn:min sn dn=n)(h:cpK H ei.size n d s k=some r) :
  ∃ v H',Zt3 E H t d s=some (v,H')∧k v H'=some r:=by
 have src:∃ l,Xq H ei.size n s=some l∧Z6q H ei.size n l k d=some r:=by
  unfold cpK Ymh at h
  split at h
  ·obtain⟨h3,h⟩:=Zo h
   exact⟨_,by simp only[Xq,h3,cond_true],h⟩
  ·rename_i hs
   exact Zda h (fun s' e=>absurd e (hs s'))
 clear h
 obtain⟨l,hl,h⟩:=src
 unfold Zt3
 simp only[ht,h1,h2,hd,he,hn,hl]
 cases d <;> try (cases h;done)
 case nils=>exact⟨_,_,rfl,h⟩
 case sl0=>exact⟨_,_,rfl,h⟩
 case sl id off len cap=>
  simp only[Z6q] at h
  rcases Y0 h with⟨h3,h⟩|⟨h3,h⟩
  ·exact⟨_,_,by simp only[h3,cond_true],h⟩
  ·unfold Yor at h
   split at h
   case h_2=>cases h
   rename_i m c e' g fz ro mk hget
   obtain⟨h4,h⟩:=Zo h
   obtain⟨h5,h⟩:=Zo h
   obtain⟨h6,h⟩:=Zo h
   rw[Bool.and_eq_true] at h5
   have h4':Nat.ble (off+n*ei.size) m=true:=h4
   have h6':l.all AV.one=true:=h6
   exact⟨_,_,by simp only[h3,cond_false,hget,h4',h5.1,h5.2,h6',Bool.and_self,cond_true],h⟩
def Yrc:Callee→Bool
 |.builtin .copy=>true
 |_=>false
def Yz4(ts:List TypeId)(args:List Operand):KF α:=fun E H fr k=>match ts with
 |t::_=>ob (Zjc E fr args) fun l=>match l with
  |[d,s]=>ob (E.ty t) fun ti=>match ti.d with
   |.slice e=>ob (E.ty e) fun ei=>Yq3 (fun dn=>Yq3 (fun sn=>bc (Nat.ble sn dn) (cpK H ei.size sn d s fun v H=>k (.val v H)) none) s) d
   |_=>none
  |_=>none
 |_=>none
def Yzp(c:Call)(o:Oper):KF α:=bc (Y0g c.callee) (Z9b c.argTypes.toList c.args.toList) (bc (Yrc c.callee) (Yz4 c.argTypes.toList c.args.toList) (fun E H fr k=>ob (xOp o E H fr) k))
def Y0h(s d:TypeId)(x:Operand)(o:Oper):KF α:=fun E H fr k=>ob (Wy E fr x) fun a=>ob (E.ty s) fun si=>ob (E.ty d) fun di=>match di.d,a with
 |.int kd,.int _ n=>k (.val (.int kd (Za kd n)) H)
 |.str,.int _ n=>bc ((!(Z2 n 0))&&Z2 n 128) (k (.val (.str [UInt8.ofNat n.toNat]) H)) none
 |.str,.str s=>k (.val (.str s) H)
 |.str,a=>(match si.d with
  |.slice e=>ob (E.ty e) fun ei=>(match ei.d with
   |.int .u8=>Yq3 (fun n=>Zlq H 1 n (fun cs=>bc (Wq cs) (k (.val (.str (Wb cs)) H)) none) a) a
   |_=>none)
  |_=>none)
 |.slice e,.str s=>(match si.d with
  |.str=>ob (E.ty e) fun ei=>(match ei.d with
   |.int .u8=>bc (Vz (Zv s) 1) (k (.val (.sl H.next 0 (Zv s) none) (H.new (.cells (Zv s) (Tr.nil.putAll 0 (s.map Z3)) e (some 1) 0 false true)))) none
   |_=>none)
  |_=>none)
 |_,_=>ob (xOp o E H fr) k
def Yzr(x:Operand):KF α:=fun E H fr k=>ob (Wy E fr x) fun a=>match a with
 |.ptr id 0=>(match H.get id with
  |some (.siter s pos)=>bc (Nat.blt pos (Zv s)) (bc (Nat.blt (Zw5 s pos).toNat 128) (k (.val (.tup [.bool true,.int .i64 (Int.ofNat pos),.int .i32 (Int.ofNat (Zw5 s pos).toNat)]) (H.put id (.siter s (Nat.succ pos))))) none) (k (.val (.tup [.bool false]) H))
  |_=>none)
 |_=>none
def kOp(o:Oper):KF α:=
 match o.op with
 |.call c=>Yzp c o
 |.convert s d x=>Y0h s d x o
 |.next x b=>bc b (Yzr x) (fun E H fr k=>ob (xOp o E H fr) k)
 |.pick c a b=>Yzm c a b
 |.load t a=>Yze t a
 |.store t a x=>Yo3 t a x
 |.indexAddr t x i=>Zpd t x i
 |.index t x i=>Ypd t x i
 |.slice t x lo hi mx=>Yjk t x lo hi mx
 |.makeSlice t l c=>Yzo t l c
 |.binOp op t x y _=>kBin op t x y
 |_=>fun E H fr k=>ob (xOp o E H fr) k
theorem Ype:∀{s:List UInt8}{i:Nat},i<Zv s→∃ b,nth s i=some b∧Zw5 s i=b:=by
 intro s
 induction s with
 |nil=>intro i h;simp[Zv] at h
 |cons a s ih=>
  intro i h
  cases i with
  |zero=>exact⟨a,rfl,rfl⟩
  |succ i=>
   obtain⟨b,h1,h2⟩:=ih (i:=i) (by simpa [Zv] using h)
   exact⟨b,h1,h2⟩
theorem Zha{top:Nat}{k:Nat→Option α}{v:AV}{r:α}(h:Ykh top k v=some r):∃ n,Ks v top=some n∧k n=some r:=by
 cases v <;> try (cases h;done)
 rename_i kd i
 simp only[Ykh] at h
 rcases Y0 h with⟨_,h⟩|⟨h1,h⟩
 ·cases h
 ·obtain⟨h2,h⟩:=Zo h
  exact⟨i.toNat,by simp[Ks,h1,h2],h⟩
def loB(h:Nat):Option AV→Option Nat
 |some v=>Ks v h
 |none=>some 0
theorem Yaa(n:Nat)(lo:Option AV){l:Nat}(h:loB n lo=some l):Zh8 n n lo none none=some (l,n,n):=by
 unfold Zh8
 cases lo with
 |none=>cases h;rfl
 |some v=>
  have h:Ks v n=some l:=h
  dsimp only
  rw[h]
theorem Yah(n c:Nat)(v:AV)(lo:Option AV){m l:Nat}(hm:Ks v c=some m)(h:loB m lo=some l):Zh8 n c lo (some v) none=some (l,m,c):=by
 unfold Zh8
 dsimp only
 rw[hm]
 cases lo with
 |none=>cases h;rfl
 |some u=>
  have h:Ks u m=some l:=h
  dsimp only
  rw[h]
theorem Zy1{len top:Nat}{k:Nat→Option α}{hi:Option AV}{r:α}(h:hiK len top k hi=some r):∃ n,(match hi with | some v=>Ks v top | none=>some len)=some n∧k n=some r:=by
 cases hi with
 |none=>exact⟨len,rfl,h⟩
 |some v=>exact Zha h
theorem Zz8{top:Nat}{f:Nat→Option α}{l:Option AV}{r:α}(h:loK top f l=some r):∃ n,loB top l=some n∧f n=some r:=by
 cases l with
 |none=>exact⟨0,rfl,h⟩
 |some v=>exact Zha h
theorem Z88(len c:Nat)(hi lo:Option AV){m l:Nat}(hm:(match hi with | some v=>Ks v c | none=>some len)=some m)(h:loB m lo=some l):Zh8 len c lo hi none=some (l,m,c):=by
 have low:(match(match lo with | some v=>Ks v m | none=>some 0) with | none=>none | some l=>some (l,m,c))=some (l,m,c):=by
  cases lo with
  |none=>cases h;rfl
  |some u=>
   have h:Ks u m=some l:=h
   dsimp only
   rw[h]
 unfold Zh8
 cases hi with
 |none=>
  have hm:some len=some m:=hm
  cases hm
  exact low
 |some v=>
  have hm:Ks v c=some m:=hm
  dsimp only
  rw[hm]
  exact low
theorem Zpy{β:Type}{b:Bool}{x y:KF β}{E:Env}{H:AHeap}{fr:Tr AV}{k:ARes→Option β}{r:β}(h:bc b x y E H fr k=some r):(b=true∧x E H fr k=some r)∨(b=false∧y E H fr k=some r):=by
 cases b
 ·exact .inr ⟨rfl,h⟩
 ·exact .inl ⟨rfl,h⟩
theorem Zgj{E:Env}{H:AHeap}{fr:Tr AV}{o:Oper}{k:ARes→Option α}{r:α}(h:kOp o E H fr k=some r):∃ x,Xf E H fr o=some x∧k x=some r:=by
 have fall:ob (xOp o E H fr) k=some r→∃ x,Xf E H fr o=some x∧k x=some r:=fun h=>by
  obtain⟨x,hx,h2⟩:=Zq h
  exact⟨x,by rw[←Zkc];exact hx,h2⟩
 unfold kOp at h
 cases hop:o.op <;> simp only[hop] at h <;> first | exact fall h | skip
 case call c=>
  unfold Yzp at h
  rcases Zpy h with⟨h1,h⟩|⟨_,h⟩
  ·unfold Xf;rw[hop];dsimp only
   have hc:c.callee=.builtin .append:=by
    unfold Y0g at h1
    split at h1
    ·assumption
    ·cases h1
   rw[hc];dsimp only
   unfold Z9b at h
   split at h
   case h_2=>cases h
   rename_i t u ts hts
   rw[Zdw] at h
   replace h:=Zq h
   obtain⟨l,hl,h⟩:=h
   split at h
   case h_2=>cases h
   rename_i s x
   replace h:=Zq h
   obtain⟨ti,ht,h⟩:=h
   split at h
   case h_2=>cases h
   rename_i e hd
   replace h:=Zq h
   obtain⟨ei,he,h⟩:=h
   rcases Y0 h with⟨h2,h⟩|⟨h2,h⟩
   ·replace h:=Zps h
    replace h:=Zgt h
    obtain⟨m,hm,h⟩:=h
    obtain⟨news,hn,h⟩:=Zda h (fun s e=>by subst e;simp only[Zfn,Option.some.injEq] at hm;exact hm.symm)
    replace h:=Zuj h
    obtain⟨v,H',ha,h⟩:=h
    refine⟨_,?_,h⟩
    rw[hl,hts]
    simp only[Zbg,Zkf,ht,hd,he,h2,cond_true,hm,hn,ha,vhh]
   ·replace h:=Zo h
    obtain⟨h3,h⟩:=h
    split at h
    case h_2=>cases h
    rename_i kx n
    replace h:=Zo h
    obtain⟨h4,h⟩:=h
    replace h:=Zps h
    replace h:=Zuj h
    obtain⟨v,H',ha,h⟩:=h
    refine⟨_,?_,h⟩
    rw[hl,hts]
    simp only[Zbg,Zkf,ht,hd,he,h2,h3,h4,cond_true,cond_false,ha,vhh]
  rcases Zpy h with⟨h1,h⟩|⟨_,h⟩
  ·unfold Xf;rw[hop];dsimp only
   have hc:c.callee=.builtin .copy:=by
    unfold Yrc at h1
    split at h1
    ·assumption
    ·cases h1
   rw[hc];dsimp only
   unfold Yz4 at h
   split at h
   case h_2=>cases h
   rename_i t ts hts
   rw[Zdw] at h
   replace h:=Zq h
   obtain⟨l,hl,h⟩:=h
   split at h
   case h_2=>cases h
   rename_i d s
   replace h:=Zq h
   obtain⟨ti,ht,h⟩:=h
   split at h
   case h_2=>cases h
   rename_i e hd
   replace h:=Zq h
   obtain⟨ei,he,h⟩:=h
   replace h:=Zgt h
   obtain⟨dn,hdn,h⟩:=h
   replace h:=Zgt h
   obtain⟨sn,hsn,h⟩:=h
   have key:∃ v H',Zt3 E H t d s=some (v,H')∧k (.val v H')=some r:=by
    obtain⟨h2,h⟩:=Zo h
    rw[Nat.ble_eq] at h2
    exact Yhw ht hd he hdn hsn (Nat.min_eq_left h2) h
   obtain⟨v,H',ha,h⟩:=key
   refine⟨_,?_,h⟩
   rw[hl,hts]
   simp only[Zbg,ha,vhh]
  ·exact fall h
 case convert s d x=>
  unfold Y0h at h
  rw[Y1] at h
  replace h:=Zq h
  obtain⟨a,ha,h⟩:=h
  replace h:=Zq h
  obtain⟨si,hsi,h⟩:=h
  replace h:=Zq h
  obtain⟨di,hdi,h⟩:=h
  have noU:isPU di.d=false→Zdn E H s d a=none:=fun h1=>by
   unfold Zdn
   simp only[hsi,hdi]
   cases hd:di.d <;> rw[hd] at h1 <;> first | (cases h1;done) | (cases si.d <;> rfl)
  have fin:∀{v:AV}{H':AHeap},Zdn E H s d a=none→J1 E H s d a=some (v,H')→Xf E H fr o=some (.val v H'):=fun h1 h2=>by
   unfold Xf;rw[hop];dsimp only
   simp only[ha,h1,h2,vhh]
  split at h
  ·rename_i kd kn n hd
   refine⟨_,fin (noU (by rw[hd];rfl)) ?_,h⟩
   simp only[J1,hsi,hdi,hd,Jg]
  ·rename_i kn n hd
   replace h:=Zo h
   obtain⟨h1,h⟩:=h
   refine⟨_,fin (noU (by rw[hd];rfl)) ?_,h⟩
   simp only[J1,hsi,hdi,hd,h1,cond_true]
  ·rename_i str hd
   refine⟨_,fin (noU (by rw[hd];rfl)) ?_,h⟩
   simp only[J1,hsi,hdi,hd]
  ·rename_i a _ _ hd hni hns
   split at h
   case h_2=>cases h
   rename_i e hs
   replace h:=Zq h
   obtain⟨ei,he,h⟩:=h
   split at h
   case h_2=>cases h
   rename_i hei
   replace h:=Zgt h
   obtain⟨n,hn,h⟩:=h
   obtain⟨cs,hcs,h⟩:=Zda h (fun s e=>absurd e (hns s))
   replace h:=Zo h
   obtain⟨h1,h⟩:=h
   refine⟨_,fin (noU (by rw[hd];rfl)) ?_,h⟩
   clear fin noU fall ha
   cases a <;> first | (cases hn;done) | exact absurd rfl (hns _) | exact absurd rfl (hni _ _) | simp only[J1,hsi,hdi,hd,hs,he,hei,hn,hcs,Yvq h1]
  ·rename_i e str hd
   split at h
   case h_2=>cases h
   rename_i hs
   replace h:=Zq h
   obtain⟨ei,he,h⟩:=h
   split at h
   case h_2=>cases h
   rename_i hei
   replace h:=Zo h
   obtain⟨h1,h⟩:=h
   refine⟨_,fin (noU (by rw[hd];rfl)) ?_,h⟩
   simp only[J1,hsi,hdi,hd,he,hei,hs,h1,cond_true]
  ·exact fall h
 case next x b=>
  rcases Zpy h with⟨h1,h2⟩|⟨_,h⟩
  ·subst h1
   clear h
   have h:=h2
   clear h2
   unfold Xf;rw[hop];dsimp only
   unfold Yzr at h
   rw[Y1] at h
   replace h:=Zq h
   obtain⟨a,ha,h⟩:=h
   split at h
   case h_2=>cases h
   rename_i id
   split at h
   case h_2=>cases h
   rename_i str pos hget
   simp only[ha,hget]
   rcases Y0 h with⟨h1,h⟩|⟨h1,h⟩
   ·replace h:=Zo h
    obtain⟨h2,h⟩:=h
    rw[Nat.blt_eq] at h1
    obtain⟨c,hc1,hc2⟩:=Ype h1
    rw[hc2] at h h2
    exact⟨_,by simp only[hc1,h2,cond_true],h⟩
   ·have h1':¬ pos<Zv str:=fun hlt=>by rw[←Nat.blt_eq,h1] at hlt;cases hlt
    have:nth str pos=none:=by rw[Zpa,List.getElem?_eq_none_iff];simpa [Zv] using h1'
    exact⟨_,by simp only[this],h⟩
  ·exact fall h
 case pick c a b=>
  unfold Xf;rw[hop];dsimp only
  simp only[Yzm,Y1] at h
  replace h:=Zq h
  obtain⟨v,hv,h⟩:=h
  rw[hv]
  cases v <;> try (cases h;done)
  rename_i t
  rcases Y0 h with⟨rfl,h⟩|⟨rfl,h⟩
  ·replace h:=Zq h
   obtain⟨u,hu,h⟩:=h
   exact⟨_,by simp[hu,vh],h⟩
  ·replace h:=Zq h
   obtain⟨u,hu,h⟩:=h
   exact⟨_,by simp[hu,vh],h⟩
 case load t a=>
  unfold Xf;rw[hop];dsimp only
  simp only[Yze,Y1] at h
  replace h:=Zq h
  obtain⟨p,hp,h⟩:=h
  obtain⟨v,hv,h⟩:=Zmy h
  exact⟨_,by simp[hp,hv,vh],h⟩
 case store t a x=>
  unfold Xf;rw[hop];dsimp only
  simp only[Yo3,Y1] at h
  replace h:=Zq h
  obtain⟨p,hp,h⟩:=h
  replace h:=Zq h
  obtain⟨v,hv,h⟩:=h
  cases p <;> try (cases h;done)
  rename_i id off
  replace h:=Zq h
  obtain⟨ti,ht,h⟩:=h
  unfold stK at h
  split at h
  case h_2=>cases h
  rename_i n c e g fz ro mk hget
  obtain⟨h1,h⟩:=Zo h
  obtain⟨h2,h⟩:=Zo h
  obtain⟨h3,h⟩:=Zo h
  simp only[Bool.and_eq_true] at h1 h3
  refine⟨_,?_,h⟩
  simp[hp,hv,Kj,ht,hget,h1.1,h1.2,h2,h3.1,h3.2]
 case indexAddr t x i=>
  unfold Xf;rw[hop];dsimp only
  simp only[Zpd,Y1] at h
  replace h:=Zq h
  obtain⟨a,ha,h⟩:=h
  replace h:=Zq h
  obtain⟨b,hb,h⟩:=h
  replace h:=Zq h
  obtain⟨ti,ht,h⟩:=h
  have go:∀{ei:ATy}{id off len:Nat}{i:Int},Yur ei id off len i H k=some r→(Z2 i 0=false∧Nat.blt i.toNat len=true)∧k (.val (.ptr id (off+i.toNat*ei.size)) H)=some r:=by
   intro ei id off len i h
   unfold Yur at h
   rcases Y0 h with⟨_,h⟩|⟨h1,h⟩
   ·cases h
   ·obtain⟨h2,h⟩:=Zo h
    exact⟨⟨h1,h2⟩,h⟩
  split at h
  ·rename_i n e id off kd i hd
   replace h:=Zq h
   obtain⟨ei,he,h⟩:=h
   obtain⟨⟨h1,h2⟩,h⟩:=go h
   exact⟨_,by simp[ha,hb,Kd,ht,hd,he,h1,h2,vh],h⟩
  ·rename_i e id off len cap kd i hd
   replace h:=Zq h
   obtain⟨ei,he,h⟩:=h
   obtain⟨⟨h1,h2⟩,h⟩:=go h
   exact⟨_,by simp[ha,hb,Kd,ht,hd,he,h1,h2,vh],h⟩
  ·cases h
 case index t x i=>
  unfold Xf;rw[hop];dsimp only
  simp only[Ypd,Y1] at h
  replace h:=Zq h
  obtain⟨a,ha,h⟩:=h
  replace h:=Zq h
  obtain⟨b,hb,h⟩:=h
  replace h:=Zq h
  obtain⟨ti,ht,h⟩:=h
  split at h
  ·rename_i s kd i hd
   rcases Y0 h with⟨_,h⟩|⟨h1,h⟩
   ·cases h
   ·obtain⟨h2,h⟩:=Zo h
    rw[Nat.blt_eq] at h2
    obtain⟨c,hc1,hc2⟩:=Ype h2
    refine⟨_,?_,h⟩
    simp[ha,hb,Zcb,ht,hd,h1,hc1,hc2,vh]
  ·replace h:=Zq h
   obtain⟨v,hv,h⟩:=h
   exact⟨_,by simp[ha,hb,hv,vh],h⟩
 case slice t x lo hi mx=>
  unfold Xf;rw[hop];dsimp only
  have oe:∀ y,Zsc E fr y=Jy E fr y:=fun y=>by
   cases y with
   |none=>rfl
   |some y=>simp only[Zsc,Jy,Y1];cases Vk E fr y <;> rfl
  simp only[Yjk,Y1,oe] at h
  replace h:=Zq h
  obtain⟨a,ha,h⟩:=h
  replace h:=Zq h
  obtain⟨l,hl,h⟩:=h
  replace h:=Zq h
  obtain⟨hh,hhh,h⟩:=h
  replace h:=Zq h
  obtain⟨m,hm,h⟩:=h
  replace h:=Zq h
  obtain⟨ti,ht,h⟩:=h
  have lo_some:∀{top:Nat}{f:Nat→Option α}{l:Option AV},loK top f l=some r→∃ n,loB top l=some n∧f n=some r:=by
   intro top f l h
   cases l with
   |none=>exact⟨0,rfl,h⟩
   |some v=>exact Zha h
  split at h
  ·rename_i s hd
   split at h
   ·obtain⟨n,hn,h⟩:=lo_some h
    refine⟨_,?_,h⟩
    simp only[ha,hl,hhh,hm,Zdi,ht,hd,Yaa _ _ hn,vh]
   ·rename_i hv
    obtain⟨n1,hn1,h⟩:=Zha h
    obtain⟨n,hn,h⟩:=lo_some h
    refine⟨_,?_,h⟩
    simp only[ha,hl,hhh,hm,Zdi,ht,hd,Yah _ _ _ _ hn1 hn,vh]
    rfl
  ·rename_i e id off len c hd
   replace h:=Zq h
   obtain⟨ei,he,h⟩:=h
   replace h:=Zy1 h
   obtain⟨n1,hn1,h⟩:=h
   replace h:=Zz8 h
   obtain⟨n,hn,h⟩:=h
   have e1:=Z88 len c hh l hn1 hn
   refine⟨_,?_,h⟩
   simp only[ha,hl,hhh,hm,Zdi,ht,hd,he,e1,vh]
   cases h1:Nat.beq c n <;> simp only[cn] <;> rfl
  ·rename_i e id off len hd
   replace h:=Zq h
   obtain⟨ei,he,h⟩:=h
   unfold Z9j at h
   split at h
   case h_2=>cases h
   rename_i nn cc ee gs fz ro mk hget
   replace h:=Zo h
   obtain⟨h1,h⟩:=h
   replace h:=Zo h
   obtain⟨h2,h⟩:=h
   replace h:=Zy1 h
   obtain⟨n1,hn1,h⟩:=h
   replace h:=Zz8 h
   obtain⟨n,hn,h⟩:=h
   have e1:Zh8 len ((nn - off) / gs) l hh none=some (n,n1,(nn - off) / gs):=Z88 len _ hh l hn1 hn
   rw[Bool.and_eq_true] at h1
   have h2':Nat.ble (off+len*gs) nn=true:=h2
   rcases Y0 h with⟨h3,h⟩|⟨h3,h⟩
   ·have h3':(Nat.blt (off+n*gs) nn||Nat.beq n 0)=true:=h3
    exact⟨_,by simp only[ha,hl,hhh,hm,Zdi,ht,hd,he,hget,h1.1,h1.2,h2',e1,h3',Bool.and_self,cond_true,vh];rfl,h⟩
   ·have h3':(Nat.blt (off+n*gs) nn||Nat.beq n 0)=false:=h3
    exact⟨_,by simp only[ha,hl,hhh,hm,Zdi,ht,hd,he,hget,h1.1,h1.2,h2',e1,h3',Bool.and_self,cond_true,cond_false,vh],h⟩
  ·replace h:=Zq h
   obtain⟨v,hv,h⟩:=h
   exact⟨_,by simp[ha,hl,hhh,hm,hv,vh],h⟩
 case makeSlice t l c=>
  unfold Xf;rw[hop];dsimp only
  simp only[Yzo,Y1] at h
  replace h:=Zq h
  obtain⟨a,ha,h⟩:=h
  replace h:=Zq h
  obtain⟨b,hb,h⟩:=h
  replace h:=Zq h
  obtain⟨ti,ht,h⟩:=h
  split at h
  ·rename_i e kd li kd2 ci hd
   replace h:=Zq h
   obtain⟨ei,he,h⟩:=h
   rcases Y0 h with⟨_,h⟩|⟨h1,h⟩
   ·cases h
   ·rcases Y0 h with⟨_,h⟩|⟨h2,h⟩
    ·cases h
    ·obtain⟨h3,h⟩:=Zo h
     exact⟨_,by simp[ha,hb,ht,hd,he,h1,h2,h3],h⟩
  ·cases h
 case binOp op t x y z=>
  replace h:=Zq h
  obtain⟨a,ha,h⟩:=h
  replace h:=Zq h
  obtain⟨b,hb,h⟩:=h
  replace h:=Zq (Z6s h)
  obtain⟨v,hv,h⟩:=h
  have he:=Zkc E H fr o
  unfold Z0f xOp at he
  rw[hop] at he
  simp only[Y4o,ha,hb,Wl,hv] at he
  exact⟨v,he.symm,h⟩
end
end
end Go.Vai
end
