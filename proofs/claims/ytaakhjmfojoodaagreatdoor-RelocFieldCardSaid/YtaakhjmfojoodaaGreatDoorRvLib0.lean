/- Package riscv's functions on numbers: what they compute. -/
import Derived.Test.YtaakhjmfojoodaaGreatDoorVaiRowB
namespace Go.Proofs.YtaakhjmfojoodaaGreatDoor
open Go Go.Vai
noncomputable section
set_option maxRecDepth 100000
def Zc3(fm:Int):Option AV:=bc (!(Zd fm (.ofNat 4))) (bc (!(Zd fm (.ofNat 5))) (bc (!(Zd fm (.ofNat 6))) (bc (!(Zd fm (.ofNat 7))) (bc (Zd fm (.ofNat 0)) (some (.tup [.bool (!(Zd fm (.ofNat 8))),.bool (!(Zd fm (.ofNat 8))),.bool true])) (bc (Zd fm (.ofNat 4)) (some (.tup [.bool (!(Zd fm (.ofNat 8))),.bool (!(Zd fm (.ofNat 8))),.bool true])) (some (.tup [.bool (!(Zd fm (.ofNat 8))),.bool (!(Zd fm (.ofNat 8))),.bool (Zd fm (.ofNat 5))])))) (bc (Zd fm (.ofNat 0)) (some (.tup [.bool (!(Zd fm (.ofNat 8))),.bool false,.bool true])) (bc (Zd fm (.ofNat 4)) (some (.tup [.bool (!(Zd fm (.ofNat 8))),.bool false,.bool true])) (some (.tup [.bool (!(Zd fm (.ofNat 8))),.bool false,.bool (Zd fm (.ofNat 5))]))))) (bc (Zd fm (.ofNat 0)) (some (.tup [.bool (!(Zd fm (.ofNat 8))),.bool false,.bool true])) (bc (Zd fm (.ofNat 4)) (some (.tup [.bool (!(Zd fm (.ofNat 8))),.bool false,.bool true])) (some (.tup [.bool (!(Zd fm (.ofNat 8))),.bool false,.bool (Zd fm (.ofNat 5))]))))) (bc (!(Zd fm (.ofNat 6))) (bc (!(Zd fm (.ofNat 7))) (bc (Zd fm (.ofNat 0)) (some (.tup [.bool false,.bool (!(Zd fm (.ofNat 8))),.bool true])) (bc (Zd fm (.ofNat 4)) (some (.tup [.bool false,.bool (!(Zd fm (.ofNat 8))),.bool true])) (some (.tup [.bool false,.bool (!(Zd fm (.ofNat 8))),.bool (Zd fm (.ofNat 5))])))) (bc (Zd fm (.ofNat 0)) (some (.tup [.bool false,.bool false,.bool true])) (bc (Zd fm (.ofNat 4)) (some (.tup [.bool false,.bool false,.bool true])) (some (.tup [.bool false,.bool false,.bool (Zd fm (.ofNat 5))]))))) (bc (Zd fm (.ofNat 0)) (some (.tup [.bool false,.bool false,.bool true])) (bc (Zd fm (.ofNat 4)) (some (.tup [.bool false,.bool false,.bool true])) (some (.tup [.bool false,.bool false,.bool (Zd fm (.ofNat 5))])))))) (bc (!(Zd fm (.ofNat 6))) (bc (!(Zd fm (.ofNat 7))) (bc (Zd fm (.ofNat 0)) (some (.tup [.bool false,.bool (!(Zd fm (.ofNat 8))),.bool true])) (bc (Zd fm (.ofNat 4)) (some (.tup [.bool false,.bool (!(Zd fm (.ofNat 8))),.bool true])) (some (.tup [.bool false,.bool (!(Zd fm (.ofNat 8))),.bool (Zd fm (.ofNat 5))])))) (bc (Zd fm (.ofNat 0)) (some (.tup [.bool false,.bool false,.bool true])) (bc (Zd fm (.ofNat 4)) (some (.tup [.bool false,.bool false,.bool true])) (some (.tup [.bool false,.bool false,.bool (Zd fm (.ofNat 5))]))))) (bc (Zd fm (.ofNat 0)) (some (.tup [.bool false,.bool false,.bool true])) (bc (Zd fm (.ofNat 4)) (some (.tup [.bool false,.bool false,.bool true])) (some (.tup [.bool false,.bool false,.bool (Zd fm (.ofNat 5))])))))
theorem Z6j(fm:Int):Yr E1 1000 (.call 149 [.int .i64 fm] (Yc 12 gl)) [] jK=Zc3 fm:=by kernel_rfl
def Zr8(fm:Int):Bool:=Zeo (at_ [0] ((Zc3 fm).getD .nilp))
def Zp1(fm:Int):Bool:=Zeo (at_ [1] ((Zc3 fm).getD .nilp))
def Zmc(fm:Int):Bool:=Zeo (at_ [2] ((Zc3 fm).getD .nilp))
def Z9d:Option AV→Bool
 |some (.tup [.bool _,.bool _,.bool _])=>true
 |_=>false
theorem Zzw(fm:Int):Zc3 fm=some (.tup [.bool (Zr8 fm),.bool (Zp1 fm),.bool (Zmc fm)]):=by
 have h:Z9d (Zc3 fm)=true:=by
  unfold Zc3
  repeat (first|rfl|apply Zx)
 unfold Zr8 Zp1 Zmc
 generalize Zc3 fm=x at h ⊢
 unfold Z9d at h
 split at h
 ·rfl
 ·cases h
def Zdk(fm:Int):Option AV:=bc (Zd fm (.ofNat 1)) (bc (Zd fm (.ofNat 1)) (some (.tup [.int .i64 (.negSucc 2047),.int .i64 (.ofNat 2047),.int .i64 (.ofNat 1)])) (bc (Zd fm (.ofNat 2)) (some (.tup [.int .i64 (.ofNat 0),.int .i64 (.ofNat 63),.int .i64 (.ofNat 1)])) (bc (Zd fm (.ofNat 3)) (some (.tup [.int .i64 (.ofNat 0),.int .i64 (.ofNat 31),.int .i64 (.ofNat 1)])) (bc (Zd fm (.ofNat 5)) (some (.tup [.int .i64 (.negSucc 4095),.int .i64 (.ofNat 4094),.int .i64 (.ofNat 2)])) (bc (Zd fm (.ofNat 6)) (some (.tup [.int .i64 (.negSucc 524287),.int .i64 (.ofNat 524287),.int .i64 (.ofNat 1)])) (bc (Zd fm (.ofNat 7)) (some (.tup [.int .i64 (.negSucc 1048575),.int .i64 (.ofNat 1048574),.int .i64 (.ofNat 2)])) (some (.tup [.int .i64 (.ofNat 0),.int .i64 (.ofNat 0),.int .i64 (.ofNat 1)])))))))) (bc (Zd fm (.ofNat 4)) (some (.tup [.int .i64 (.negSucc 2047),.int .i64 (.ofNat 2047),.int .i64 (.ofNat 1)])) (bc (Zd fm (.ofNat 2)) (some (.tup [.int .i64 (.ofNat 0),.int .i64 (.ofNat 63),.int .i64 (.ofNat 1)])) (bc (Zd fm (.ofNat 3)) (some (.tup [.int .i64 (.ofNat 0),.int .i64 (.ofNat 31),.int .i64 (.ofNat 1)])) (bc (Zd fm (.ofNat 5)) (some (.tup [.int .i64 (.negSucc 4095),.int .i64 (.ofNat 4094),.int .i64 (.ofNat 2)])) (bc (Zd fm (.ofNat 6)) (some (.tup [.int .i64 (.negSucc 524287),.int .i64 (.ofNat 524287),.int .i64 (.ofNat 1)])) (bc (Zd fm (.ofNat 7)) (some (.tup [.int .i64 (.negSucc 1048575),.int .i64 (.ofNat 1048574),.int .i64 (.ofNat 2)])) (some (.tup [.int .i64 (.ofNat 0),.int .i64 (.ofNat 0),.int .i64 (.ofNat 1)]))))))))
theorem Ya2(fm:Int):Yr E1 1000 (.call 150 [.int .i64 fm] (Yc 12 gl)) [] jK=Zdk fm:=by kernel_rfl
def Zjq(fm:Int):Int:=Va (at_ [0] ((Zdk fm).getD .nilp))
def Zka(fm:Int):Int:=Va (at_ [1] ((Zdk fm).getD .nilp))
def Zj0(fm:Int):Int:=Va (at_ [2] ((Zdk fm).getD .nilp))
def Yrn:Option AV→Bool
 |some (.tup [.int .i64 _,.int .i64 _,.int .i64 _])=>true
 |_=>false
theorem Z55(fm:Int):Zdk fm=some (.tup [.int .i64 (Zjq fm),.int .i64 (Zka fm),.int .i64 (Zj0 fm)]):=by
 have h:Yrn (Zdk fm)=true:=by
  unfold Zdk
  repeat (first|rfl|apply Zx)
 unfold Zjq Zka Zj0
 generalize Zdk fm=x at h ⊢
 unfold Yrn at h
 split at h
 ·rfl
 ·cases h
def Zl5(n:Int)(u:Bool):Option AV:=bc (Zd n (.ofNat 0)) (some (.bool true)) (bc u (bc (Z2 (.ofNat 0) n) (some (.bool (Z2 n (.ofNat 32)))) (some (.bool false))) (some (.bool false)))
theorem Yb6(n:Int)(u:Bool):Yr E1 1000 (.call 151 [.int .i64 n,.bool u] (Yc 12 gl)) [] jK=Zl5 n u:=by kernel_rfl
def Zlv(n:Int)(u:Bool):Bool:=Zeo (at_ [] ((Zl5 n u).getD .nilp))
def Ymc:Option AV→Bool
 |some (.bool _)=>true
 |_=>false
theorem Z5m(n:Int)(u:Bool):Zl5 n u=some (.bool (Zlv n u)):=by
 have h:Ymc (Zl5 n u)=true:=by
  unfold Zl5
  repeat (first|rfl|apply Zx)
 unfold Zlv
 generalize Zl5 n u=x at h ⊢
 unfold Ymc at h
 split at h
 ·rfl
 ·cases h
def Zlu(fm:Int)(n:Int):Option AV:=bc (Zd fm (.ofNat 1)) (some (.int .u32 (Za .u32 (Zf (Za .u32 (Ze .u32 (Za .u32 (Zc n 0)) (.ofNat 4095))) 20)))) (bc (Zd fm (.ofNat 2)) (bc (Zd fm (.ofNat 2)) (some (.int .u32 (Za .u32 (Zf (Za .u32 (Ze .u32 (Za .u32 (Zc n 0)) (.ofNat 63))) 20)))) (bc (Zd fm (.ofNat 4)) (some (.int .u32 (Za .u32 (Zw .u32 (Za .u32 (Zf (Za .u32 (Ze .u32 (Za .u32 (Zc n 0)) (.ofNat 31))) 7)) (Za .u32 (Zf (Za .u32 (Ze .u32 (Za .u32 (Zc n 5)) (.ofNat 127))) 25)))))) (bc (Zd fm (.ofNat 5)) (some (.int .u32 (Za .u32 (Zw .u32 (Za .u32 (Zw .u32 (Za .u32 (Zw .u32 (Za .u32 (Zf (Za .u32 (Ze .u32 (Za .u32 (Zc n 1)) (.ofNat 15))) 8)) (Za .u32 (Zf (Za .u32 (Ze .u32 (Za .u32 (Zc n 5)) (.ofNat 63))) 25)))) (Za .u32 (Zf (Za .u32 (Ze .u32 (Za .u32 (Zc n 11)) (.ofNat 1))) 7)))) (Za .u32 (Zf (Za .u32 (Ze .u32 (Za .u32 (Zc n 12)) (.ofNat 1))) 31)))))) (bc (Zd fm (.ofNat 6)) (some (.int .u32 (Za .u32 (Zf (Za .u32 (Ze .u32 (Za .u32 (Zc n 0)) (.ofNat 1048575))) 12)))) (bc (Zd fm (.ofNat 7)) (some (.int .u32 (Za .u32 (Zw .u32 (Za .u32 (Zw .u32 (Za .u32 (Zw .u32 (Za .u32 (Zf (Za .u32 (Ze .u32 (Za .u32 (Zc n 1)) (.ofNat 1023))) 21)) (Za .u32 (Zf (Za .u32 (Ze .u32 (Za .u32 (Zc n 11)) (.ofNat 1))) 20)))) (Za .u32 (Zf (Za .u32 (Ze .u32 (Za .u32 (Zc n 12)) (.ofNat 255))) 12)))) (Za .u32 (Zf (Za .u32 (Ze .u32 (Za .u32 (Zc n 20)) (.ofNat 1))) 31)))))) (some (.int .u32 (.ofNat 0)))))))) (bc (Zd fm (.ofNat 3)) (some (.int .u32 (Za .u32 (Zf (Za .u32 (Ze .u32 (Za .u32 (Zc n 0)) (.ofNat 63))) 20)))) (bc (Zd fm (.ofNat 4)) (some (.int .u32 (Za .u32 (Zw .u32 (Za .u32 (Zf (Za .u32 (Ze .u32 (Za .u32 (Zc n 0)) (.ofNat 31))) 7)) (Za .u32 (Zf (Za .u32 (Ze .u32 (Za .u32 (Zc n 5)) (.ofNat 127))) 25)))))) (bc (Zd fm (.ofNat 5)) (some (.int .u32 (Za .u32 (Zw .u32 (Za .u32 (Zw .u32 (Za .u32 (Zw .u32 (Za .u32 (Zf (Za .u32 (Ze .u32 (Za .u32 (Zc n 1)) (.ofNat 15))) 8)) (Za .u32 (Zf (Za .u32 (Ze .u32 (Za .u32 (Zc n 5)) (.ofNat 63))) 25)))) (Za .u32 (Zf (Za .u32 (Ze .u32 (Za .u32 (Zc n 11)) (.ofNat 1))) 7)))) (Za .u32 (Zf (Za .u32 (Ze .u32 (Za .u32 (Zc n 12)) (.ofNat 1))) 31)))))) (bc (Zd fm (.ofNat 6)) (some (.int .u32 (Za .u32 (Zf (Za .u32 (Ze .u32 (Za .u32 (Zc n 0)) (.ofNat 1048575))) 12)))) (bc (Zd fm (.ofNat 7)) (some (.int .u32 (Za .u32 (Zw .u32 (Za .u32 (Zw .u32 (Za .u32 (Zw .u32 (Za .u32 (Zf (Za .u32 (Ze .u32 (Za .u32 (Zc n 1)) (.ofNat 1023))) 21)) (Za .u32 (Zf (Za .u32 (Ze .u32 (Za .u32 (Zc n 11)) (.ofNat 1))) 20)))) (Za .u32 (Zf (Za .u32 (Ze .u32 (Za .u32 (Zc n 12)) (.ofNat 255))) 12)))) (Za .u32 (Zf (Za .u32 (Ze .u32 (Za .u32 (Zc n 20)) (.ofNat 1))) 31)))))) (some (.int .u32 (.ofNat 0)))))))))
theorem Yd8(fm:Int)(n:Int):Yr E1 1000 (.call 152 [.int .i64 fm,.int .i64 n] (Yc 12 gl)) [] jK=Zlu fm n:=by kernel_rfl
def Jx(fm:Int)(n:Int):Int:=Va (at_ [] ((Zlu fm n).getD .nilp))
def Yh3:Option AV→Bool
 |some (.int .u32 _)=>true
 |_=>false
theorem Z2j(fm:Int)(n:Int):Zlu fm n=some (.int .u32 (Jx fm n)):=by
 have h:Yh3 (Zlu fm n)=true:=by
  unfold Zlu
  repeat (first|rfl|apply Zx)
 unfold Jx
 generalize Zlu fm n=x at h ⊢
 unfold Yh3 at h
 split at h
 ·rfl
 ·cases h
def Zlr(fm:Int)(w:Int):Option AV:=bc (Zd fm (.ofNat 1)) (some (.int .i64 (Za .i64 (Zc (Za .i32 (Za .u32 (Zf (Zc w 20) 20))) 20)))) (bc (Zd fm (.ofNat 2)) (some (.int .i64 (Za .i64 (Za .u32 (Zf (Za .u32 (Ze .u32 (Zc w 20) (.ofNat 63))) 0))))) (bc (Zd fm (.ofNat 3)) (some (.int .i64 (Za .i64 (Za .u32 (Zf (Za .u32 (Ze .u32 (Zc w 20) (.ofNat 31))) 0))))) (bc (Zd fm (.ofNat 4)) (some (.int .i64 (Za .i64 (Zc (Za .i32 (Za .u32 (Zf (Za .u32 (Zw .u32 (Za .u32 (Zf (Za .u32 (Ze .u32 (Zc w 7) (.ofNat 31))) 0)) (Za .u32 (Zf (Za .u32 (Ze .u32 (Zc w 25) (.ofNat 127))) 5)))) 20))) 20)))) (bc (Zd fm (.ofNat 5)) (some (.int .i64 (Za .i64 (Zc (Za .i32 (Za .u32 (Zf (Za .u32 (Zw .u32 (Za .u32 (Zw .u32 (Za .u32 (Zw .u32 (Za .u32 (Zf (Za .u32 (Ze .u32 (Zc w 8) (.ofNat 15))) 1)) (Za .u32 (Zf (Za .u32 (Ze .u32 (Zc w 25) (.ofNat 63))) 5)))) (Za .u32 (Zf (Za .u32 (Ze .u32 (Zc w 7) (.ofNat 1))) 11)))) (Za .u32 (Zf (Za .u32 (Ze .u32 (Zc w 31) (.ofNat 1))) 12)))) 19))) 19)))) (bc (Zd fm (.ofNat 6)) (some (.int .i64 (Za .i64 (Zc (Za .i32 (Za .u32 (Zf (Zc w 12) 12))) 12)))) (bc (Zd fm (.ofNat 7)) (some (.int .i64 (Za .i64 (Zc (Za .i32 (Za .u32 (Zf (Za .u32 (Zw .u32 (Za .u32 (Zw .u32 (Za .u32 (Zw .u32 (Za .u32 (Zf (Za .u32 (Ze .u32 (Zc w 21) (.ofNat 1023))) 1)) (Za .u32 (Zf (Za .u32 (Ze .u32 (Zc w 20) (.ofNat 1))) 11)))) (Za .u32 (Zf (Za .u32 (Ze .u32 (Zc w 12) (.ofNat 255))) 12)))) (Za .u32 (Zf (Za .u32 (Ze .u32 (Zc w 31) (.ofNat 1))) 20)))) 11))) 11)))) (some (.int .i64 (.ofNat 0)))))))))
theorem Ya8(fm:Int)(w:Int):Yr E1 1000 (.call 155 [.int .i64 fm,.int .u32 w] (Yc 12 gl)) [] jK=Zlr fm w:=by kernel_rfl
def Qc(fm:Int)(w:Int):Int:=Va (at_ [] ((Zlr fm w).getD .nilp))
def Yqw:Option AV→Bool
 |some (.int .i64 _)=>true
 |_=>false
theorem Z4y(fm:Int)(w:Int):Zlr fm w=some (.int .i64 (Qc fm w)):=by
 have h:Yqw (Zlr fm w)=true:=by
  unfold Zlr
  repeat (first|rfl|apply Zx)
 unfold Qc
 generalize Zlr fm w=x at h ⊢
 unfold Yqw at h
 split at h
 ·rfl
 ·cases h
def Yqe:List AV→Option AV
 |[.int .i64 fm,.int .u32 w]=>some (.int .i64 (Qc fm w))
 |_=>none
def Yk1:List AV→Option AV
 |[.int .i64 fm,.int .i64 n]=>some (.int .u32 (Jx fm n))
 |_=>none
def Yku:List AV→Option AV
 |[.int .i64 n,.bool u]=>some (.bool (Zlv n u))
 |_=>none
def Yhx:List AV→Option AV
 |[.int .i64 fm]=>some (.tup [.int .i64 (Zjq fm),.int .i64 (Zka fm),.int .i64 (Zj0 fm)])
 |_=>none
def Z66:List AV→Option AV
 |[.int .i64 fm]=>some (.tup [.bool (Zr8 fm),.bool (Zp1 fm),.bool (Zmc fm)])
 |_=>none
def FT0:Nat→List AV→Option AV:=fun f args=>bif Nat.beq f 149 then Z66 args else bif Nat.beq f 150 then Yhx args else bif Nat.beq f 151 then Yku args else bif Nat.beq f 152 then Yk1 args else bif Nat.beq f 155 then Yqe args else none
theorem Yge(f:Nat)(args:List AV)(v:AV)(h:FT0 f args=some v):∃(E:Env)(n:Nat),(∀ w,Z4 gl w→EnvOk E Tryz.prog (Kept gl w))∧(gl.all fun x=>Nat.blt x.1 E.ng)=true∧(E.fn f).isSome=true∧(∀ a∈args,Plain a)∧∃ o,Yr E n (.call f args (Yc E.ng gl)) o jK=some v:=by
 unfold FT0 at h
 simp only[Bool.cond_eq_ite,Nat.beq_eq] at h
 split at h
 ·rename_i e
  subst e
  unfold Z66 at h
  split at h
  ·simp only[Option.some.injEq] at h
   subst h
   exact⟨E1,1000,Ky,Ww,by kernel_rfl,Zh rfl,⟨[],(Z6j ..).trans (Zzw ..)⟩⟩
  ·cases h
 split at h
 ·rename_i e
  subst e
  unfold Yhx at h
  split at h
  ·simp only[Option.some.injEq] at h
   subst h
   exact⟨E1,1000,Ky,Ww,by kernel_rfl,Zh rfl,⟨[],(Ya2 ..).trans (Z55 ..)⟩⟩
  ·cases h
 split at h
 ·rename_i e
  subst e
  unfold Yku at h
  split at h
  ·simp only[Option.some.injEq] at h
   subst h
   exact⟨E1,1000,Ky,Ww,by kernel_rfl,Zh rfl,⟨[],(Yb6 ..).trans (Z5m ..)⟩⟩
  ·cases h
 split at h
 ·rename_i e
  subst e
  unfold Yk1 at h
  split at h
  ·simp only[Option.some.injEq] at h
   subst h
   exact⟨E1,1000,Ky,Ww,by kernel_rfl,Zh rfl,⟨[],(Yd8 ..).trans (Z2j ..)⟩⟩
  ·cases h
 split at h
 ·rename_i e
  subst e
  unfold Yqe at h
  split at h
  ·simp only[Option.some.injEq] at h
   subst h
   exact⟨E1,1000,Ky,Ww,by kernel_rfl,Zh rfl,⟨[],(Ya8 ..).trans (Z4y ..)⟩⟩
  ·cases h
 ·cases h
def EL0:Env:=Q0 Tryz.prog 12 [149,150,151,152,155] (Z9 (Vy kinds) (Yo FT0))
theorem Z5f(w:World)(hw:Z4 gl w):EnvOk EL0 Tryz.prog (Kept gl w):=Xv (by kernel_rfl) ((Xx V4).or (W4 Yge)) Xw (fun _ _ _ h=>h.1) (Zz hw).ext
end
end Go.Proofs.YtaakhjmfojoodaaGreatDoor
namespace Go.Proofs.YtaakhjmfojoodaaGreatDoor
open Go Go.Vai
noncomputable section
set_option maxRecDepth 100000
def Y58(x:Option AV):Bool:=!(Zd (Va (at_ [2] (x.getD .nilp))) (.ofNat 0))
theorem Yvf(fm:Int):Zd (Zj0 fm) (.ofNat 0)=false:=by
 have h:Y58 (Zdk fm)=true:=by
  unfold Zdk
  repeat (first|rfl|apply Zx)
 unfold Zj0
 simpa [Y58] using h
def Zah(_rn:List UInt8)(fm:Int)(_rw:Int)(_nm:List UInt8)(a:Int)(b:Int)(c:Int)(d:Int)(im:Int):Option AV:=bc (!(Zlv a (Zr8 fm))) (some (.int .i64 (.ofNat 13))) (bc (!(Zlv b (Zp1 fm))) (some (.int .i64 (.ofNat 13))) (bc (!(Zlv c (Zmc fm))) (some (.int .i64 (.ofNat 13))) (bc (!(Zd d (.ofNat 0))) (some (.int .i64 (.ofNat 13))) (bc (Zd (Zjq fm) (Zka fm)) (bc (!(Zd im (.ofNat 0))) (some (.int .i64 (.ofNat 13))) (bc (Z2 im (Zjq fm)) (some (.int .i64 (.ofNat 3))) (bc (Z2 (Zka fm) im) (some (.int .i64 (.ofNat 3))) (bc (Zd (Zj0 fm) (.ofNat 0)) (none) (bc (!(Zd (Int.tmod im (Zj0 fm)) (.ofNat 0))) (some (.int .i64 (.ofNat 10))) (some (.int .i64 (.ofNat 0)))))))) (bc (Z2 im (Zjq fm)) (some (.int .i64 (.ofNat 3))) (bc (Z2 (Zka fm) im) (some (.int .i64 (.ofNat 3))) (bc (Zd (Zj0 fm) (.ofNat 0)) (none) (bc (!(Zd (Int.tmod im (Zj0 fm)) (.ofNat 0))) (some (.int .i64 (.ofNat 10))) (some (.int .i64 (.ofNat 0)))))))))))
theorem Zux(rn:List UInt8)(fm:Int)(rw:Int)(nm:List UInt8)(a:Int)(b:Int)(c:Int)(d:Int)(im:Int):Yr EL0 1000 (.call 111 [.agg [.str rn,.int .i64 fm,.int .u32 rw],.agg [.str nm,.int .i64 a,.int .i64 b,.int .i64 c,.int .i64 d,.int .i64 im]] (Yc 12 gl)) [] jK=Zah rn fm rw nm a b c d im:=by kernel_rfl
def Zbu(rn:List UInt8)(fm:Int)(rw:Int)(nm:List UInt8)(a:Int)(b:Int)(c:Int)(d:Int)(im:Int):Int:=Va (at_ [] ((Zah rn fm rw nm a b c d im).getD .nilp))
def Zsk:Option AV→Bool
 |some (.int .i64 _)=>true
 |_=>false
theorem Zhz(rn:List UInt8)(fm:Int)(rw:Int)(nm:List UInt8)(a:Int)(b:Int)(c:Int)(d:Int)(im:Int):Zah rn fm rw nm a b c d im=some (.int .i64 (Zbu rn fm rw nm a b c d im)):=by
 have h:Zsk (Zah rn fm rw nm a b c d im)=true:=by
  unfold Zah
  simp only[Yvf,Yg]
  repeat (first|rfl|apply Zx)
 unfold Zbu
 generalize Zah rn fm rw nm a b c d im=x at h ⊢
 unfold Zsk at h
 split at h
 ·rfl
 ·cases h
def Zej(_rn:List UInt8)(fm:Int)(rw:Int)(_nm:List UInt8)(a:Int)(b:Int)(c:Int)(_d:Int)(im:Int):Option AV:=bc (AV.eqb (.int .u32 (Za .u32 (Zw .u32 (Za .u32 (Zw .u32 (Za .u32 (Zw .u32 rw (Za .u32 (Zf (Za .u32 a) 7)))) (Za .u32 (Zf (Za .u32 b) 15)))) (Za .u32 (Zf (Za .u32 c) 20))))) (.int .u32 (Za .u32 (Zw .u32 (Za .u32 (Zw .u32 (Za .u32 (Zw .u32 rw (Za .u32 (Zf (Za .u32 a) 7)))) (Za .u32 (Zf (Za .u32 b) 15)))) (Za .u32 (Zf (Za .u32 c) 20)))))) (bc (AV.eqb (.int .u32 (Za .u32 (Zf (Za .u32 c) 20))) (.int .u32 (Za .u32 (Zf (Za .u32 c) 20)))) (bc (AV.eqb (.int .u32 (Za .u32 c)) (.int .u32 (Za .u32 c))) (bc (AV.eqb (.int .i64 c) (.int .i64 c)) (bc (AV.eqb (.int .u32 (Za .u32 (Zw .u32 (Za .u32 (Zw .u32 rw (Za .u32 (Zf (Za .u32 a) 7)))) (Za .u32 (Zf (Za .u32 b) 15))))) (.int .u32 (Za .u32 (Zw .u32 (Za .u32 (Zw .u32 rw (Za .u32 (Zf (Za .u32 a) 7)))) (Za .u32 (Zf (Za .u32 b) 15)))))) (bc (AV.eqb (.int .u32 (Za .u32 (Zf (Za .u32 b) 15))) (.int .u32 (Za .u32 (Zf (Za .u32 b) 15)))) (bc (AV.eqb (.int .u32 (Za .u32 b)) (.int .u32 (Za .u32 b))) (bc (AV.eqb (.int .i64 b) (.int .i64 b)) (bc (AV.eqb (.int .u32 (Za .u32 (Zw .u32 rw (Za .u32 (Zf (Za .u32 a) 7))))) (.int .u32 (Za .u32 (Zw .u32 rw (Za .u32 (Zf (Za .u32 a) 7)))))) (bc (AV.eqb (.int .u32 (Za .u32 (Zf (Za .u32 a) 7))) (.int .u32 (Za .u32 (Zf (Za .u32 a) 7)))) (bc (AV.eqb (.int .u32 (Za .u32 a)) (.int .u32 (Za .u32 a))) (bc (AV.eqb (.int .i64 a) (.int .i64 a)) (bc (AV.eqb (.int .u32 rw) (.int .u32 rw)) (some (.int .u32 (Za .u32 (Zw .u32 (Za .u32 (Zw .u32 (Za .u32 (Zw .u32 (Za .u32 (Zw .u32 rw (Za .u32 (Zf (Za .u32 a) 7)))) (Za .u32 (Zf (Za .u32 b) 15)))) (Za .u32 (Zf (Za .u32 c) 20)))) (Jx fm im))))) (none)) (none)) (none)) (none)) (none)) (none)) (none)) (none)) (none)) (none)) (none)) (none)) (none)
theorem Z18(rn:List UInt8)(fm:Int)(rw:Int)(nm:List UInt8)(a:Int)(b:Int)(c:Int)(d:Int)(im:Int):Yr EL0 1000 (.call 112 [.agg [.str rn,.int .i64 fm,.int .u32 rw],.agg [.str nm,.int .i64 a,.int .i64 b,.int .i64 c,.int .i64 d,.int .i64 im]] (Yc 12 gl)) [] jK=Zej rn fm rw nm a b c d im:=by kernel_rfl
def Xp(rn:List UInt8)(fm:Int)(rw:Int)(nm:List UInt8)(a:Int)(b:Int)(c:Int)(d:Int)(im:Int):Int:=Va (at_ [] ((Zej rn fm rw nm a b c d im).getD .nilp))
def Z9n:Option AV→Bool
 |some (.int .u32 _)=>true
 |_=>false
theorem Zmx(rn:List UInt8)(fm:Int)(rw:Int)(nm:List UInt8)(a:Int)(b:Int)(c:Int)(d:Int)(im:Int):Zej rn fm rw nm a b c d im=some (.int .u32 (Xp rn fm rw nm a b c d im)):=by
 have h:Z9n (Zej rn fm rw nm a b c d im)=true:=by
  unfold Zej
  simp only[W9,Zas,J7,Ym]
  repeat (first|rfl|apply Zx)
 unfold Xp
 generalize Zej rn fm rw nm a b c d im=x at h ⊢
 unfold Z9n at h
 split at h
 ·rfl
 ·cases h
def V2(rn:List UInt8)(fm:Int)(_rw:Int)(w:Int):Option AV:=bc (AV.eqb (.str rn) (.str rn)) (bc (AV.eqb (.agg [.str rn,.int .i64 (.ofNat 0),.int .i64 (.ofNat 0),.int .i64 (.ofNat 0),.int .i64 (.ofNat 0),.int .i64 (Qc fm w)]) (.agg [.str rn,.int .i64 (.ofNat 0),.int .i64 (.ofNat 0),.int .i64 (.ofNat 0),.int .i64 (.ofNat 0),.int .i64 (Qc fm w)])) (bc (AV.eqb (.int .u32 w) (.int .u32 w)) (bc (AV.eqb (.int .i64 fm) (.int .i64 fm)) (bc (AV.eqb (.str rn) (.str rn)) (bc (Zr8 fm) (bc (Zp1 fm) (bc (Zmc fm) (some (.agg [.str rn,.int .i64 (Za .i64 (Za .u32 (Ze .u32 (Zc w 7) (.ofNat 31)))),.int .i64 (Za .i64 (Za .u32 (Ze .u32 (Zc w 15) (.ofNat 31)))),.int .i64 (Za .i64 (Za .u32 (Ze .u32 (Zc w 20) (.ofNat 31)))),.int .i64 (.ofNat 0),.int .i64 (Qc fm w)])) (some (.agg [.str rn,.int .i64 (Za .i64 (Za .u32 (Ze .u32 (Zc w 7) (.ofNat 31)))),.int .i64 (Za .i64 (Za .u32 (Ze .u32 (Zc w 15) (.ofNat 31)))),.int .i64 (.ofNat 0),.int .i64 (.ofNat 0),.int .i64 (Qc fm w)]))) (bc (Zmc fm) (some (.agg [.str rn,.int .i64 (Za .i64 (Za .u32 (Ze .u32 (Zc w 7) (.ofNat 31)))),.int .i64 (.ofNat 0),.int .i64 (Za .i64 (Za .u32 (Ze .u32 (Zc w 20) (.ofNat 31)))),.int .i64 (.ofNat 0),.int .i64 (Qc fm w)])) (some (.agg [.str rn,.int .i64 (Za .i64 (Za .u32 (Ze .u32 (Zc w 7) (.ofNat 31)))),.int .i64 (.ofNat 0),.int .i64 (.ofNat 0),.int .i64 (.ofNat 0),.int .i64 (Qc fm w)])))) (bc (Zp1 fm) (bc (Zmc fm) (some (.agg [.str rn,.int .i64 (.ofNat 0),.int .i64 (Za .i64 (Za .u32 (Ze .u32 (Zc w 15) (.ofNat 31)))),.int .i64 (Za .i64 (Za .u32 (Ze .u32 (Zc w 20) (.ofNat 31)))),.int .i64 (.ofNat 0),.int .i64 (Qc fm w)])) (some (.agg [.str rn,.int .i64 (.ofNat 0),.int .i64 (Za .i64 (Za .u32 (Ze .u32 (Zc w 15) (.ofNat 31)))),.int .i64 (.ofNat 0),.int .i64 (.ofNat 0),.int .i64 (Qc fm w)]))) (bc (Zmc fm) (some (.agg [.str rn,.int .i64 (.ofNat 0),.int .i64 (.ofNat 0),.int .i64 (Za .i64 (Za .u32 (Ze .u32 (Zc w 20) (.ofNat 31)))),.int .i64 (.ofNat 0),.int .i64 (Qc fm w)])) (some (.agg [.str rn,.int .i64 (.ofNat 0),.int .i64 (.ofNat 0),.int .i64 (.ofNat 0),.int .i64 (.ofNat 0),.int .i64 (Qc fm w)]))))) (none)) (none)) (none)) (none)) (none)
theorem Z30(rn:List UInt8)(fm:Int)(rw:Int)(w:Int):Yr EL0 1000 (.call 117 [.agg [.str rn,.int .i64 fm,.int .u32 rw],.int .u32 w] (Yc 12 gl)) [] jK=V2 rn fm rw w:=by kernel_rfl
def Zdj(rn:List UInt8)(fm:Int)(rw:Int)(w:Int):List UInt8:=Ygg (at_ [0] ((V2 rn fm rw w).getD .nilp))
def K5(rn:List UInt8)(fm:Int)(rw:Int)(w:Int):Int:=Va (at_ [1] ((V2 rn fm rw w).getD .nilp))
def K4(rn:List UInt8)(fm:Int)(rw:Int)(w:Int):Int:=Va (at_ [2] ((V2 rn fm rw w).getD .nilp))
def K2(rn:List UInt8)(fm:Int)(rw:Int)(w:Int):Int:=Va (at_ [3] ((V2 rn fm rw w).getD .nilp))
def Zaj(rn:List UInt8)(fm:Int)(rw:Int)(w:Int):Int:=Va (at_ [4] ((V2 rn fm rw w).getD .nilp))
def Zeh(rn:List UInt8)(fm:Int)(rw:Int)(w:Int):Int:=Va (at_ [5] ((V2 rn fm rw w).getD .nilp))
def Z7s:Option AV→Bool
 |some (.agg [.str _,.int .i64 _,.int .i64 _,.int .i64 _,.int .i64 _,.int .i64 _])=>true
 |_=>false
theorem Jr(rn:List UInt8)(fm:Int)(rw:Int)(w:Int):V2 rn fm rw w=some (.agg [.str (Zdj rn fm rw w),.int .i64 (K5 rn fm rw w),.int .i64 (K4 rn fm rw w),.int .i64 (K2 rn fm rw w),.int .i64 (Zaj rn fm rw w),.int .i64 (Zeh rn fm rw w)]):=by
 have h:Z7s (V2 rn fm rw w)=true:=by
  unfold V2
  simp only[W9,Zas,J7,Ym]
  repeat (first|rfl|apply Zx)
 unfold Zdj K5 K4 K2 Zaj Zeh
 generalize V2 rn fm rw w=x at h ⊢
 unfold Z7s at h
 split at h
 ·rfl
 ·cases h
def Z9e:List AV→Option AV
 |[.agg [.str rn,.int .i64 fm,.int .u32 rw],.int .u32 w]=>some (.agg [.str (Zdj rn fm rw w),.int .i64 (K5 rn fm rw w),.int .i64 (K4 rn fm rw w),.int .i64 (K2 rn fm rw w),.int .i64 (Zaj rn fm rw w),.int .i64 (Zeh rn fm rw w)])
 |_=>none
def Z8l:List AV→Option AV
 |[.agg [.str rn,.int .i64 fm,.int .u32 rw],.agg [.str nm,.int .i64 a,.int .i64 b,.int .i64 c,.int .i64 d,.int .i64 im]]=>some (.int .u32 (Xp rn fm rw nm a b c d im))
 |_=>none
def Zsm:List AV→Option AV
 |[.agg [.str rn,.int .i64 fm,.int .u32 rw],.agg [.str nm,.int .i64 a,.int .i64 b,.int .i64 c,.int .i64 d,.int .i64 im]]=>some (.int .i64 (Zbu rn fm rw nm a b c d im))
 |_=>none
def FT1:Nat→List AV→Option AV:=fun f args=>bif Nat.beq f 111 then Zsm args else bif Nat.beq f 112 then Z8l args else bif Nat.beq f 117 then Z9e args else none
theorem Z5u(f:Nat)(args:List AV)(v:AV)(h:FT1 f args=some v):∃(E:Env)(n:Nat),(∀ w,Z4 gl w→EnvOk E Tryz.prog (Kept gl w))∧(gl.all fun x=>Nat.blt x.1 E.ng)=true∧(E.fn f).isSome=true∧(∀ a∈args,Plain a)∧∃ o,Yr E n (.call f args (Yc E.ng gl)) o jK=some v:=by
 unfold FT1 at h
 simp only[Bool.cond_eq_ite,Nat.beq_eq] at h
 split at h
 ·rename_i e
  subst e
  unfold Zsm at h
  split at h
  ·simp only[Option.some.injEq] at h
   subst h
   exact⟨EL0,1000,Z5f,Ww,by kernel_rfl,Zh rfl,⟨[],(Zux ..).trans (Zhz ..)⟩⟩
  ·cases h
 split at h
 ·rename_i e
  subst e
  unfold Z8l at h
  split at h
  ·simp only[Option.some.injEq] at h
   subst h
   exact⟨EL0,1000,Z5f,Ww,by kernel_rfl,Zh rfl,⟨[],(Z18 ..).trans (Zmx ..)⟩⟩
  ·cases h
 split at h
 ·rename_i e
  subst e
  unfold Z9e at h
  split at h
  ·simp only[Option.some.injEq] at h
   subst h
   exact⟨EL0,1000,Z5f,Ww,by kernel_rfl,Zh rfl,⟨[],(Z30 ..).trans (Jr ..)⟩⟩
  ·cases h
 ·cases h
end
end Go.Proofs.YtaakhjmfojoodaaGreatDoor
