/- Package mask: an element turned, the fields of a mask. -/
import Derived.Test.YtaakhjmfojoodaaGreatDoorMask2
namespace Go.Proofs.YtaakhjmfojoodaaGreatDoor
open Go Go.Vai
noncomputable section
set_option maxRecDepth 100000
def tnT(x:Int)(e r:Nat):Option AV:=bc (Z2 (Za .i64 (Int.sub (.ofNat e) (.ofNat r))) (.ofNat 0)) (none) (bc (AV.eqb (.int .u64 (Za .u64 (Zw .u64 (Zc x (Nat.min r 64)) (Za .u64 (Zf x (Nat.min (Int.toNat (Za .i64 (Int.sub (.ofNat e) (.ofNat r)))) 64)))))) (.int .u64 (Za .u64 (Zw .u64 (Zc x (Nat.min r 64)) (Za .u64 (Zf x (Nat.min (Int.toNat (Za .i64 (Int.sub (.ofNat e) (.ofNat r)))) 64))))))) (bc (Z2 (Za .i64 (Int.sub (.ofNat e) (.ofNat r))) (.ofNat 0)) (none) (bc (AV.eqb (.int .u64 (Za .u64 (Zf x (Nat.min (Int.toNat (Za .i64 (Int.sub (.ofNat e) (.ofNat r)))) 64)))) (.int .u64 (Za .u64 (Zf x (Nat.min (Int.toNat (Za .i64 (Int.sub (.ofNat e) (.ofNat r)))) 64))))) (bc (AV.eqb (.int .i64 (Za .i64 (Int.sub (.ofNat e) (.ofNat r)))) (.int .i64 (Za .i64 (Int.sub (.ofNat e) (.ofNat r))))) (bc (AV.eqb (.int .i64 (.ofNat r)) (.int .i64 (.ofNat r))) (bc (AV.eqb (.int .i64 (.ofNat e)) (.int .i64 (.ofNat e))) (bc (AV.eqb (.int .u64 x) (.int .u64 x)) (bc (AV.eqb (.int .u64 (Zc x (Nat.min r 64))) (.int .u64 (Zc x (Nat.min r 64)))) (bc (AV.eqb (.int .i64 (.ofNat r)) (.int .i64 (.ofNat r))) (bc (AV.eqb (.int .u64 x) (.int .u64 x)) (some (.int .u64 (Za .u64 (Ze .u64 (Za .u64 (Zw .u64 (Zc x (Nat.min r 64)) (Za .u64 (Zf x (Nat.min (Int.toNat (Za .i64 (Int.sub (.ofNat e) (.ofNat r)))) 64))))) (onV e))))) (none)) (none)) (none)) (none)) (none)) (none)) (none)) (none))) (none))
theorem Y17(x:Int)(e r:Nat):Yr ML1 1000 (.call 137 [.int .u64 x,.int .i64 (.ofNat e),.int .i64 (.ofNat r)] (Yc 12 gl)) [] jK=tnT x e r:=by kernel_rfl
def tnV(x:Int)(e r:Nat):Int:=Va ((tnT x e r).getD .nilp)
theorem Yt2{x:Int}{e r:Nat}(hg:(Nat.ble r e&&Nat.ble e 64)=true):tnT x e r=some (.int .u64 (tnV x e r)):=Zc7 (by
 rw[Bool.and_eq_true,Nat.ble_eq,Nat.ble_eq] at hg
 unfold tnT
 simp only[Z9c hg.1 hg.2,Zzj,Yg,Ym,W9,Bool.not_false]
 repeat (first|rfl|apply Zx))
def tnF:List AV→Option AV
 |[.int .u64 x,.int .i64 (.ofNat e),.int .i64 (.ofNat r)]=>bif (Nat.ble r e&&Nat.ble e 64) then some (.int .u64 (tnV x e r)) else none
 |_=>none
def MF2:Nat→List AV→Option AV:=fun f args=>bif Nat.beq f 137 then tnF args else none
theorem Zxc(f:Nat)(args:List AV)(v:AV)(h:MF2 f args=some v):∃(E:Env)(n:Nat)(s:Smk AV),Qp E s∧(∀ w,Z4 gl w→EnvOk E Tryz.prog (Kept gl w))∧(gl.all fun x=>Nat.blt x.1 E.ng)=true∧(E.fn f).isSome=true∧(∀ a∈args,Plain a)∧∃ o,W2 E s Qe n (.call f args (Yc E.ng gl)) o jK=some v:=by
 unfold MF2 at h
 simp only[Bool.cond_eq_ite,Nat.beq_eq] at h
 split at h
 ·rename_i e
  subst e
  unfold tnF at h
  split at h
  ·rw[Bool.cond_eq_ite] at h
   split at h
   ·rename_i hg
    simp only[Option.some.injEq] at h
    subst h
    exact⟨ML1,1000,_,W8 _,Yg3,Ww,by kernel_rfl,Zh rfl,⟨[],(Y17 ..).trans (Yt2 hg)⟩⟩
   ·cases h
  ·cases h
 ·cases h
def ML2:Env:=Q0 Tryz.prog 12 [136,135,134,137] (Z9 (Vy kinds) (Z9 (Yo MF0) (Z9 (Yo MF1) (Yo MF2))))
theorem Y1h(w:World)(hw:Z4 gl w):EnvOk ML2 Tryz.prog (Kept gl w):=Xv (by kernel_rfl) ((Xx V4).or ((W4 Zlm).or ((W0 Zo9).or (W0 Zxc)))) Xw (fun _ _ _ h=>h.1) (Zz hw).ext
def oT(m:Int)(e k:Nat):Bool:=!(Zd (tnV (onV (pcN (Za .u64 (Ze .u64 m (onV e))))) e k) (Za .u64 (Ze .u64 m (onV e))))
def o0:Option AV:=some (.tup [.int .i64 (.ofNat 0),.int .i64 (.ofNat 0),.int .i64 (.ofNat 0),.bool false])
def oE(m:Int)(e N:Nat)(S:Int):Option AV:=List.rec (motive:=fun _=>Option AV) o0 (fun k _ ih=>bc (oT m e k) ih (some (.tup [.int .i64 (.ofNat N),.int .i64 (.ofNat k),.int .i64 S,.bool true]))) (List.range e)
def ofT(m:Int):Option AV:=bc (Zd m (.ofNat 0)) o0 (bc (Zd m (.ofNat 18446744073709551615)) o0 (bc (!(Zd (spV (Za .u64 (Ze .u64 m (onV 2))) 2) m)) (bc (!(Zd (spV (Za .u64 (Ze .u64 m (onV 4))) 4) m)) (bc (!(Zd (spV (Za .u64 (Ze .u64 m (onV 8))) 8) m)) (bc (!(Zd (spV (Za .u64 (Ze .u64 m (onV 16))) 16) m)) (bc (!(Zd (spV (Za .u64 (Ze .u64 m (onV 32))) 32) m)) (oE m 64 1 (pr (pcN (Za .u64 (Ze .u64 m (onV 64)))))) (oE m 32 0 (Za .i64 (Int.sub (Za .i64 (Zw .i64 (.ofNat 0) (.ofNat (pcN (Za .u64 (Ze .u64 m (onV 32))))))) (.ofNat 1))))) (oE m 16 0 (Za .i64 (Int.sub (Za .i64 (Zw .i64 (.ofNat 32) (.ofNat (pcN (Za .u64 (Ze .u64 m (onV 16))))))) (.ofNat 1))))) (oE m 8 0 (Za .i64 (Int.sub (Za .i64 (Zw .i64 (.ofNat 48) (.ofNat (pcN (Za .u64 (Ze .u64 m (onV 8))))))) (.ofNat 1))))) (oE m 4 0 (Za .i64 (Int.sub (Za .i64 (Zw .i64 (.ofNat 56) (.ofNat (pcN (Za .u64 (Ze .u64 m (onV 4))))))) (.ofNat 1))))) (oE m 2 0 (Za .i64 (Int.sub (Za .i64 (Zw .i64 (.ofNat 60) (.ofNat (pcN (Za .u64 (Ze .u64 m (onV 2))))))) (.ofNat 1))))))
theorem Y40(m:Int):Yr ML2 1000 (.call 100 [.int .u64 m] (Yc 12 gl)) [] jK=ofT m:=by kernel_rfl
def ofN(m:Int):Int:=Va (at_ [0] ((ofT m).getD .nilp))
def ofR(m:Int):Int:=Va (at_ [1] ((ofT m).getD .nilp))
def ofS(m:Int):Int:=Va (at_ [2] ((ofT m).getD .nilp))
def ofK(m:Int):Bool:=Zeo (at_ [3] ((ofT m).getD .nilp))
def Ytn:Option AV→Bool
 |some (.tup [.int .i64 _,.int .i64 _,.int .i64 _,.bool _])=>true
 |_=>false
theorem Y7a(m:Int)(e N:Nat)(S:Int):Ytn (oE m e N S)=true:=by
 unfold oE
 generalize List.range e=l
 induction l with
 |nil=>rfl
 |cons k l ih=>exact Zx (p:=Ytn) ih rfl
theorem Y5b(m:Int):Ytn (ofT m)=true:=by
 unfold ofT
 repeat (first|exact Y7a .. | rfl|apply Zx)
theorem Z8j(m:Int):ofT m=some (.tup [.int .i64 (ofN m),.int .i64 (ofR m),.int .i64 (ofS m),.bool (ofK m)]):=by
 have h:=Y5b m
 unfold ofN ofR ofS ofK
 generalize ofT m=x at h ⊢
 unfold Ytn at h
 split at h
 ·rfl
 ·cases h
def atF:List AV→Option AV
 |[.int .i64 n,.int .i64 r,.int .i64 s]=>some (.tup [.int .u64 (atV n r s),.bool (atB n r s)])
 |_=>none
def ofF:List AV→Option AV
 |[.int .u64 m]=>some (.tup [.int .i64 (ofN m),.int .i64 (ofR m),.int .i64 (ofS m),.bool (ofK m)])
 |_=>none
def MF3:Nat→List AV→Option AV:=fun f args=>bif Nat.beq f 100 then ofF args else bif Nat.beq f 105 then atF args else none
theorem Z3c(f:Nat)(args:List AV)(v:AV)(h:MF3 f args=some v):∃(E:Env)(n:Nat),(∀ w,Z4 gl w→EnvOk E Tryz.prog (Kept gl w))∧(gl.all fun x=>Nat.blt x.1 E.ng)=true∧(E.fn f).isSome=true∧(∀ a∈args,Plain a)∧∃ o,Yr E n (.call f args (Yc E.ng gl)) o jK=some v:=by
 unfold MF3 at h
 simp only[Bool.cond_eq_ite,Nat.beq_eq] at h
 split at h
 ·rename_i e
  subst e
  unfold ofF at h
  split at h
  ·simp only[Option.some.injEq] at h
   subst h
   exact⟨ML2,1000,Y1h,Ww,by kernel_rfl,Zh rfl,⟨[],(Y40 ..).trans (Z8j ..)⟩⟩
  ·cases h
 split at h
 ·rename_i e
  subst e
  unfold atF at h
  split at h
  ·simp only[Option.some.injEq] at h
   subst h
   exact⟨ML1,1000,Yg3,Ww,by kernel_rfl,Zh rfl,Y3v ..⟩
  ·cases h
 ·cases h
def ML3:Env:=Q0 Tryz.prog 12 [136,135,134,137,100,105] (Z9 (Vy kinds) (Z9 (Yo MF0) (Z9 (Yo MF1) (Z9 (Yo MF2) (Yo MF3)))))
theorem Z2a(w:World)(hw:Z4 gl w):EnvOk ML3 Tryz.prog (Kept gl w):=Xv (by kernel_rfl) ((Xx V4).or ((W4 Zlm).or ((W0 Zo9).or ((W0 Zxc).or (W4 Z3c))))) Xw (fun _ _ _ h=>h.1) (Zz hw).ext
end
end Go.Proofs.YtaakhjmfojoodaaGreatDoor
namespace Go.Proofs.YtaakhjmfojoodaaGreatDoor
open Go Go.Vai
noncomputable section
set_option maxRecDepth 100000
def Yl(t b k y:Int):Bool:=!(Zd k (.ofNat 1))||(!(Z2 t (.ofNat 0))&&(!(Z2 b (.ofNat 0))&&(!(Z2 (Za .i64 (Int.sub (.ofNat 32) (Za .i64 b))) (.ofNat 0))&&!(Zd (Za .i64 y) (.ofNat 0)))))
theorem Zt4{t b k y:Int}(h:Yl t b k y=true):Zd k (.ofNat 1)=false∨(Z2 t (.ofNat 0)=false∧Z2 b (.ofNat 0)=false∧Z2 (Za .i64 (Int.sub (.ofNat 32) (Za .i64 b))) (.ofNat 0)=false∧Zd (Za .i64 y) (.ofNat 0)=false):=by
 unfold Yl at h
 simpa using h
def Zec(_ft:Int)(_fb:Int)(_fk:Int)(_fy:Int)(fl:Int)(fh:Int)(n:Int):Option AV:=bc (!(Z2 n (Za .i64 fl))) (some (.bool (!(Z2 (Za .i64 fh) n)))) (some (.bool false))
theorem Zz2(ft:Int)(fb:Int)(fk:Int)(fy:Int)(fl:Int)(fh:Int)(n:Int):Yr ML3 1000 (.call 99 [.agg [.int .i8 ft,.int .i8 fb,.int .i8 fk,.int .i8 fy,.int .i32 fl,.int .i32 fh],.int .i64 n] (Yc 12 gl)) [] jK=Zec ft fb fk fy fl fh n:=by kernel_rfl
def Zce(ft:Int)(fb:Int)(fk:Int)(fy:Int)(fl:Int)(fh:Int)(n:Int):Bool:=Zeo (at_ [] ((Zec ft fb fk fy fl fh n).getD .nilp))
def Zzu:Option AV→Bool
 |some (.bool _)=>true
 |_=>false
theorem Zw4(ft:Int)(fb:Int)(fk:Int)(fy:Int)(fl:Int)(fh:Int)(n:Int):Zec ft fb fk fy fl fh n=some (.bool (Zce ft fb fk fy fl fh n)):=by
 have h:Zzu (Zec ft fb fk fy fl fh n)=true:=by
  unfold Zec
  repeat (first|rfl|apply Zx)
 unfold Zce
 generalize Zec ft fb fk fy fl fh n=x at h ⊢
 unfold Zzu at h
 split at h
 ·rfl
 ·cases h
def Zku(ft:Int)(fb:Int)(fk:Int)(fy:Int)(fl:Int)(_fh:Int)(w:Int):Option AV:=bc (Zd fk (.ofNat 1)) (bc (Z2 ft (.ofNat 0)) (none) (bc (Z2 fb (.ofNat 0)) (none) (bc (Z2 fl (.ofNat 0)) (bc (Z2 (Za .i64 (Int.sub (.ofNat 32) (Za .i64 fb))) (.ofNat 0)) (none) (bc (Z2 (Za .i64 (Int.sub (.ofNat 32) (Za .i64 fb))) (.ofNat 0)) (none) (bc (AV.eqb (.int .i8 fy) (.int .i8 fy)) (bc (AV.eqb (.int .i64 (Za .i64 fy)) (.int .i64 (Za .i64 fy))) (some (.int .i64 (Za .i64 (Int.mul (Za .i64 (Zc (Za .i32 (Za .u32 (Zf (Za .u32 (Ze .u32 (Zc w (Nat.min (Int.toNat ft) 32)) (Za .u32 (Int.sub (Za .u32 (Zf (.ofNat 1) (Nat.min (Int.toNat fb) 32))) (.ofNat 1))))) (Nat.min (Int.toNat (Za .i64 (Int.sub (.ofNat 32) (Za .i64 fb)))) 32)))) (Nat.min (Int.toNat (Za .i64 (Int.sub (.ofNat 32) (Za .i64 fb)))) 32))) (Za .i64 fy))))) (none)) (none)))) (some (.int .i64 (Za .i64 (Int.mul (Za .i64 (Za .u32 (Ze .u32 (Zc w (Nat.min (Int.toNat ft) 32)) (Za .u32 (Int.sub (Za .u32 (Zf (.ofNat 1) (Nat.min (Int.toNat fb) 32))) (.ofNat 1)))))) (Za .i64 fy)))))))) (bc (Zd fk (.ofNat 2)) (some (.int .i64 (Za .i64 (Zc (Za .i32 (Za .u32 (Zf (Za .u32 (Zw .u32 (Za .u32 (Zf (Za .u32 (Ze .u32 (Zc w 5) (.ofNat 524287))) 2)) (Za .u32 (Ze .u32 (Zc w 29) (.ofNat 3))))) 11))) 11)))) (bc (Zd fk (.ofNat 3)) (some (.int .i64 (Za .i64 (atV (Za .i64 (Za .u32 (Ze .u32 (Zc w 22) (.ofNat 1)))) (Za .i64 (Za .u32 (Ze .u32 (Zc w 16) (.ofNat 63)))) (Za .i64 (Za .u32 (Ze .u32 (Zc w 10) (.ofNat 63)))))))) (some (.int .i64 (.ofNat 0)))))
theorem Yb7(ft:Int)(fb:Int)(fk:Int)(fy:Int)(fl:Int)(fh:Int)(w:Int):Yr ML3 1000 (.call 66 [.agg [.int .i8 ft,.int .i8 fb,.int .i8 fk,.int .i8 fy,.int .i32 fl,.int .i32 fh],.int .u32 w] (Yc 12 gl)) [] jK=Zku ft fb fk fy fl fh w:=by kernel_rfl
def Yf(ft:Int)(fb:Int)(fk:Int)(fy:Int)(fl:Int)(fh:Int)(w:Int):Int:=Va (at_ [] ((Zku ft fb fk fy fl fh w).getD .nilp))
def Yl0:Option AV→Bool
 |some (.int .i64 _)=>true
 |_=>false
theorem Z11(ft:Int)(fb:Int)(fk:Int)(fy:Int)(fl:Int)(fh:Int)(w:Int)(hg:Yl ft fb fk fy=true):Zku ft fb fk fy fl fh w=some (.int .i64 (Yf ft fb fk fy fl fh w)):=by
 have h:Yl0 (Zku ft fb fk fy fl fh w)=true:=by
  unfold Zku
  rcases Zt4 hg with g1|⟨g2,g3,g4,g5⟩
  ·simp only[g1,Yg]
   repeat (first|rfl|apply Zx)
  ·simp only[g2,g3,g4,Yg,Ym,W9]
   repeat (first|rfl|apply Zx)
 unfold Yf
 generalize Zku ft fb fk fy fl fh w=x at h ⊢
 unfold Yl0 at h
 split at h
 ·rfl
 ·cases h
def Zh9(ft:Int)(fb:Int)(fk:Int)(fy:Int)(_fl:Int)(_fh:Int)(n:Int):Option AV:=bc (Zd fk (.ofNat 1)) (bc (Zd (Za .i64 fy) (.ofNat 0)) (none) (bc (Z2 fb (.ofNat 0)) (none) (bc (Z2 ft (.ofNat 0)) (none) (some (.int .u32 (Za .u32 (Zf (Za .u32 (Ze .u32 (Za .u32 (Za .i64 (Int.tdiv n (Za .i64 fy)))) (Za .u32 (Int.sub (Za .u32 (Zf (.ofNat 1) (Nat.min (Int.toNat fb) 32))) (.ofNat 1))))) (Nat.min (Int.toNat ft) 32)))))))) (bc (Zd fk (.ofNat 2)) (some (.int .u32 (Za .u32 (Zw .u32 (Za .u32 (Zf (Za .u32 (Ze .u32 (Za .u32 n) (.ofNat 3))) 29)) (Za .u32 (Zf (Za .u32 (Ze .u32 (Za .u32 (Zc n 2)) (.ofNat 524287))) 5)))))) (bc (Zd fk (.ofNat 3)) (some (.int .u32 (Za .u32 (Zw .u32 (Za .u32 (Zw .u32 (Za .u32 (Zf (Za .u32 (ofN (Za .u64 n))) 22)) (Za .u32 (Zf (Za .u32 (ofR (Za .u64 n))) 16)))) (Za .u32 (Zf (Za .u32 (ofS (Za .u64 n))) 10)))))) (some (.int .u32 (.ofNat 0)))))
theorem Yc0(ft:Int)(fb:Int)(fk:Int)(fy:Int)(fl:Int)(fh:Int)(n:Int):Yr ML3 1000 (.call 101 [.agg [.int .i8 ft,.int .i8 fb,.int .i8 fk,.int .i8 fy,.int .i32 fl,.int .i32 fh],.int .i64 n] (Yc 12 gl)) [] jK=Zh9 ft fb fk fy fl fh n:=by kernel_rfl
def Yn(ft:Int)(fb:Int)(fk:Int)(fy:Int)(fl:Int)(fh:Int)(n:Int):Int:=Va (at_ [] ((Zh9 ft fb fk fy fl fh n).getD .nilp))
def Yrd:Option AV→Bool
 |some (.int .u32 _)=>true
 |_=>false
theorem Zpo(ft:Int)(fb:Int)(fk:Int)(fy:Int)(fl:Int)(fh:Int)(n:Int)(hg:Yl ft fb fk fy=true):Zh9 ft fb fk fy fl fh n=some (.int .u32 (Yn ft fb fk fy fl fh n)):=by
 have h:Yrd (Zh9 ft fb fk fy fl fh n)=true:=by
  unfold Zh9
  rcases Zt4 hg with g1|⟨g2,g3,g4,g5⟩
  ·simp only[g1,Yg]
   repeat (first|rfl|apply Zx)
  ·simp only[g2,g3,g5,Yg]
   repeat (first|rfl|apply Zx)
 unfold Yn
 generalize Zh9 ft fb fk fy fl fh n=x at h ⊢
 unfold Yrd at h
 split at h
 ·rfl
 ·cases h
def Zld:List AV→Option AV
 |[.agg [.int .i8 ft,.int .i8 fb,.int .i8 fk,.int .i8 fy,.int .i32 fl,.int .i32 fh],.int .i64 n]=>bif Yl ft fb fk fy then some (.int .u32 (Yn ft fb fk fy fl fh n)) else none
 |_=>none
def Zl1:List AV→Option AV
 |[.agg [.int .i8 ft,.int .i8 fb,.int .i8 fk,.int .i8 fy,.int .i32 fl,.int .i32 fh],.int .u32 w]=>bif Yl ft fb fk fy then some (.int .i64 (Yf ft fb fk fy fl fh w)) else none
 |_=>none
def Zy4:List AV→Option AV
 |[.agg [.int .i8 ft,.int .i8 fb,.int .i8 fk,.int .i8 fy,.int .i32 fl,.int .i32 fh],.int .i64 n]=>some (.bool (Zce ft fb fk fy fl fh n))
 |_=>none
def AF4:Nat→List AV→Option AV:=fun f args=>bif Nat.beq f 99 then Zy4 args else bif Nat.beq f 66 then Zl1 args else bif Nat.beq f 101 then Zld args else none
theorem Yrx(f:Nat)(args:List AV)(v:AV)(h:AF4 f args=some v):∃(E:Env)(n:Nat)(s:Smk AV),Qp E s∧(∀ w,Z4 gl w→EnvOk E Tryz.prog (Kept gl w))∧(gl.all fun x=>Nat.blt x.1 E.ng)=true∧(E.fn f).isSome=true∧(∀ a∈args,Plain a)∧∃ o,W2 E s Qe n (.call f args (Yc E.ng gl)) o jK=some v:=by
 unfold AF4 at h
 simp only[Bool.cond_eq_ite,Nat.beq_eq] at h
 split at h
 ·rename_i e
  subst e
  unfold Zy4 at h
  split at h
  ·simp only[Option.some.injEq] at h
   subst h
   exact⟨ML3,1000,_,W8 _,Z2a,Ww,by kernel_rfl,Zh rfl,⟨[],(Zz2 ..).trans (Zw4 ..)⟩⟩
  ·cases h
 split at h
 ·rename_i e
  subst e
  unfold Zl1 at h
  split at h
  ·rw[Bool.cond_eq_ite] at h
   split at h
   ·rename_i hg
    simp only[Option.some.injEq] at h
    subst h
    exact⟨ML3,1000,_,W8 _,Z2a,Ww,by kernel_rfl,Zh rfl,⟨[],(Yb7 ..).trans (Z11 (hg:=hg) ..)⟩⟩
   ·cases h
  ·cases h
 split at h
 ·rename_i e
  subst e
  unfold Zld at h
  split at h
  ·rw[Bool.cond_eq_ite] at h
   split at h
   ·rename_i hg
    simp only[Option.some.injEq] at h
    subst h
    exact⟨ML3,1000,_,W8 _,Z2a,Ww,by kernel_rfl,Zh rfl,⟨[],(Yc0 ..).trans (Zpo (hg:=hg) ..)⟩⟩
   ·cases h
  ·cases h
 ·cases h
def AL4:Env:=Q0 Tryz.prog 12 [136,135,134,137,100,105,99,66,101] (Z9 (Vy kinds) (Z9 (Yo MF0) (Z9 (Yo MF1) (Z9 (Yo MF2) (Z9 (Yo MF3) (Yo AF4))))))
theorem Yn7(w:World)(hw:Z4 gl w):EnvOk AL4 Tryz.prog (Kept gl w):=Xv (by kernel_rfl) ((Xx V4).or ((W4 Zlm).or ((W0 Zo9).or ((W0 Zxc).or ((W4 Z3c).or (W0 Yrx)))))) Xw (fun _ _ _ h=>h.1) (Zz hw).ext
def Zvd{α:Type}(args:List AV)(H:AHeap)(k:AV→AHeap→Option α):Option α:=match args with
 |[.agg [.int .i8 ft,.int .i8 fb,.int .i8 fk,.int .i8 fy,.int .i32 fl,.int .i32 fh],.int .u32 w]=>bc (Yl ft fb fk fy) (k (.int .i64 (Yf ft fb fk fy fl fh w)) H) none
 |_=>none
def Zwm{α:Type}(args:List AV)(H:AHeap)(k:AV→AHeap→Option α):Option α:=match args with
 |[.agg [.int .i8 ft,.int .i8 fb,.int .i8 fk,.int .i8 fy,.int .i32 fl,.int .i32 fh],.int .i64 n]=>bc (Yl ft fb fk fy) (k (.int .u32 (Yn ft fb fk fy fl fh n)) H) none
 |_=>none
theorem Z0v(ft:Int)(fb:Int)(fk:Int)(fy:Int)(fl:Int)(fh:Int)(w:Int)(H:AHeap)(hg:(Yl ft fb fk fy)=true):AL4.sm 66 [.agg [.int .i8 ft,.int .i8 fb,.int .i8 fk,.int .i8 fy,.int .i32 fl,.int .i32 fh],.int .u32 w] H=some (.int .i64 (Yf ft fb fk fy fl fh w),H):=by
 have h:Zl1 [.agg [.int .i8 ft,.int .i8 fb,.int .i8 fk,.int .i8 fy,.int .i32 fl,.int .i32 fh],.int .u32 w]=some (.int .i64 (Yf ft fb fk fy fl fh w)):=by
  show(bif Yl ft fb fk fy then(some (.int .i64 (Yf ft fb fk fy fl fh w)):Option AV) else none)=_
  rw[hg];rfl
 have e:AL4.sm 66 [.agg [.int .i8 ft,.int .i8 fb,.int .i8 fk,.int .i8 fy,.int .i32 fl,.int .i32 fh],.int .u32 w] H=Option.rec (motive:=fun _=>Option (AV×AHeap)) none (fun v=>some (v,H)) (Zl1 [.agg [.int .i8 ft,.int .i8 fb,.int .i8 fk,.int .i8 fy,.int .i32 fl,.int .i32 fh],.int .u32 w]):=by kernel_rfl
 rw[e,h]
theorem Z1i(ft:Int)(fb:Int)(fk:Int)(fy:Int)(fl:Int)(fh:Int)(n:Int)(H:AHeap)(hg:(Yl ft fb fk fy)=true):AL4.sm 101 [.agg [.int .i8 ft,.int .i8 fb,.int .i8 fk,.int .i8 fy,.int .i32 fl,.int .i32 fh],.int .i64 n] H=some (.int .u32 (Yn ft fb fk fy fl fh n),H):=by
 have h:Zld [.agg [.int .i8 ft,.int .i8 fb,.int .i8 fk,.int .i8 fy,.int .i32 fl,.int .i32 fh],.int .i64 n]=some (.int .u32 (Yn ft fb fk fy fl fh n)):=by
  show(bif Yl ft fb fk fy then(some (.int .u32 (Yn ft fb fk fy fl fh n)):Option AV) else none)=_
  rw[hg];rfl
 have e:AL4.sm 101 [.agg [.int .i8 ft,.int .i8 fb,.int .i8 fk,.int .i8 fy,.int .i32 fl,.int .i32 fh],.int .i64 n] H=Option.rec (motive:=fun _=>Option (AV×AHeap)) none (fun v=>some (v,H)) (Zld [.agg [.int .i8 ft,.int .i8 fb,.int .i8 fk,.int .i8 fy,.int .i32 fl,.int .i32 fh],.int .i64 n]):=by kernel_rfl
 rw[e,h]
def Z89{α:Type}:Smk α:=fun f args H k=>bif Nat.beq f 66 then Zvd args H k else(bif Nat.beq f 101 then Zwm args H k else(smC AL4 f args H k))
theorem Z0i{α:Type}:Qp (α:=α) AL4 Z89:=by
 intro f args H k r h
 unfold Z89 at h
 simp only[Bool.cond_eq_ite,Nat.beq_eq] at h
 split at h
 ·rename_i e
  subst e
  unfold Zvd at h
  split at h
  ·rename_i ft fb fk fy fl fh w
   cases hg:(Yl ft fb fk fy) with
   |false=>rw[hg] at h;cases h
   |true=>
    rw[hg] at h
    exact⟨_,_,Z0v (H:=H) (hg:=hg) ..,h⟩
  ·cases h
 split at h
 ·rename_i e
  subst e
  unfold Zwm at h
  split at h
  ·rename_i ft fb fk fy fl fh n
   cases hg:(Yl ft fb fk fy) with
   |false=>rw[hg] at h;cases h
   |true=>
    rw[hg] at h
    exact⟨_,_,Z1i (H:=H) (hg:=hg) ..,h⟩
  ·cases h
 exact W8 _ _ _ _ _ _ h
end
end Go.Proofs.YtaakhjmfojoodaaGreatDoor
