/- riscv.Encode as a summary. -/
import Derived.Test.YtaakhjmfojoodaaGreatDoorRvDec0
namespace Go.Proofs.YtaakhjmfojoodaaGreatDoor
open Go Go.Vai
noncomputable section
set_option maxRecDepth 100000
def Zdc(n:List UInt8)(l:List Zc6):Option AV:=List.rec (motive:=fun _=>Option AV) (some (.tup [.agg [.str [],.int .i64 (.ofNat 0),.int .u32 (.ofNat 0)],.bool false])) (fun x _ ih=>bc (leq x.1 n) (some (.tup [.agg [.str x.1,.int .i64 x.2.1,.int .u32 x.2.2],.bool true])) ih) l
def EFv:Env:=Q0 Tryz.prog 12 [21,116] (Z9 (Vy kinds) (Z9 (Jm 21) (J2 Zid)))
theorem Y15(w:World)(hw:Z4 gl w):EnvOk EFv Tryz.prog (Kept gl w):=Xv (by kernel_rfl) ((Xx V4).or (Zbi.or Ztm)) Xw (fun _ _ _ h=>h.1) (Zz hw).ext
theorem Z4v(n:List UInt8):Yr EFv 100000 (.call 110 [.str n] (Yc 12 gl)) [] jK=Zdc n Xb:=by kernel_rfl
def Zr9(n:List UInt8):List UInt8:=Ygg (at_ [0,0] ((Zdc n Xb).getD .nilp))
def Zi1(n:List UInt8):Int:=Va (at_ [0,1] ((Zdc n Xb).getD .nilp))
def Zqw(n:List UInt8):Int:=Va (at_ [0,2] ((Zdc n Xb).getD .nilp))
def Zvr(n:List UInt8):Bool:=Zeo (at_ [1] ((Zdc n Xb).getD .nilp))
def Zuo:Option AV→Bool
 |some (.tup [.agg [.str _,.int .i64 _,.int .u32 _],.bool _])=>true
 |_=>false
theorem Zqf(n:List UInt8):∀ l,Zuo (Zdc n l)=true
 |[]=>rfl
 |_::l=>Zx (p:=Zuo) rfl (Zqf n l)
theorem Z3s(n:List UInt8):Zdc n Xb=some (.tup [.agg [.str (Zr9 n),.int .i64 (Zi1 n),.int .u32 (Zqw n)],.bool (Zvr n)]):=by
 have h:=Zqf n Xb
 unfold Zr9 Zi1 Zqw Zvr
 generalize Zdc n Xb=x at h ⊢
 unfold Zuo at h
 split at h
 ·rfl
 ·cases h
def Y0x(fN:List UInt8→List UInt8)(fF fW:List UInt8→Int)(fB:List UInt8→Bool)(flt wrd:List UInt8→Int→Int→List UInt8→Int→Int→Int→Int→Int→Int):Nat→List AV→Option AV:=fun f args=>bif Nat.beq f 110 then(match args with
 |[.str n]=>some (.tup [.agg [.str (fN n),.int .i64 (fF n),.int .u32 (fW n)],.bool (fB n)])
 |_=>none) else bif Nat.beq f 111 then(match args with
 |[.agg [.str rn,.int .i64 fm,.int .u32 rw],.agg [.str nm,.int .i64 a,.int .i64 b,.int .i64 c,.int .i64 d,.int .i64 im]]=>some (.int .i64 (flt rn fm rw nm a b c d im))
 |_=>none) else bif Nat.beq f 112 then(match args with
 |[.agg [.str rn,.int .i64 fm,.int .u32 rw],.agg [.str nm,.int .i64 a,.int .i64 b,.int .i64 c,.int .i64 d,.int .i64 im]]=>some (.int .u32 (wrd rn fm rw nm a b c d im))
 |_=>none) else none
def ERv(fN:List UInt8→List UInt8)(fF fW:List UInt8→Int)(fB:List UInt8→Bool)(flt wrd:List UInt8→Int→Int→List UInt8→Int→Int→Int→Int→Int→Int):Env:=Q0 Tryz.prog 12 [21,110,111,112] (Z9 (Vy kinds) (Z9 (Jm 21) (Yo (Y0x fN fF fW fB flt wrd))))
theorem Yed(fN:List UInt8→List UInt8)(fF fW:List UInt8→Int)(fB:List UInt8→Bool)(flt wrd:List UInt8→Int→Int→List UInt8→Int→Int→Int→Int→Int→Int)(nm:List UInt8)(A B C D X:Int):Yr (ERv fN fF fW fB flt wrd) 1000 (.call 69 [Zcp nm A B C D X] (Yc 12 gl)) [] (Zbo 5) =
  bc (!(fB nm)) (some (.ofNat 7,none)) (bc (!(Zd (flt (fN nm) (fF nm) (fW nm) nm A B C D X) (.ofNat 0))) (some (flt (fN nm) (fF nm) (fW nm) nm A B C D X,none)) (some (.ofNat 0,some (b4 (wrd (fN nm) (fF nm) (fW nm) nm A B C D X))))):=by kernel_rfl
theorem Y21:Zr Tryz.prog gl (Yo (Y0x Zr9 Zi1 Zqw Zvr Zbu Xp)):=Ydk fun f args v h=>by
 unfold Y0x at h
 simp only[Bool.cond_eq_ite,Nat.beq_eq] at h
 split at h
 ·rename_i e
  subst e
  split at h
  case h_2=>cases h
  rename_i n
  simp only[Option.some.injEq] at h
  subst h
  refine⟨Yo fun f args=>match args with | [.str n]=>bif Nat.beq f 110 then some (.tup [.agg [.str (Zr9 n),.int .i64 (Zi1 n),.int .u32 (Zqw n)],.bool (Zvr n)]) else none | _=>none,W4 fun f args v h=>?_,fun H=>rfl⟩
  try dsimp only at h
  split at h
  case h_2=>cases h
  rename_i n
  rw[Bool.cond_eq_ite] at h
  split at h
  case isFalse=>cases h
  rename_i e
  rw[Nat.beq_eq] at e
  subst e
  simp only[Option.some.injEq] at h
  subst h
  exact⟨EFv,100000,Y15,Ww,by kernel_rfl,Zh rfl,[],(Z4v n).trans (Z3s n)⟩
 split at h
 ·rename_i e
  subst e
  split at h
  case h_2=>cases h
  simp only[Option.some.injEq] at h
  subst h
  exact⟨Yo FT1,W4 Z5u,fun H=>rfl⟩
 split at h
 ·rename_i e
  subst e
  split at h
  case h_2=>cases h
  simp only[Option.some.injEq] at h
  subst h
  exact⟨Yo FT1,W4 Z5u,fun H=>rfl⟩
 ·cases h
theorem Y3j(w:World)(hw:Z4 gl w):EnvOk (ERv Zr9 Zi1 Zqw Zvr Zbu Xp) Tryz.prog (Kept gl w):=Xv (by kernel_rfl) ((Xx V4).or (Zbi.or Y21)) Xw (fun _ _ _ h=>h.1) (Zz hw).ext
def rvEE(nm:List UInt8)(A B C D X:Int):Int:=bif Zvr nm then Zbu (Zr9 nm) (Zi1 nm) (Zqw nm) nm A B C D X else .ofNat 7
def rvEW(nm:List UInt8)(A B C D X:Int):Int:=Xp (Zr9 nm) (Zi1 nm) (Zqw nm) nm A B C D X
theorem Ztr:Zr Tryz.prog gl (Jn 69 5 b4 (fun _=>true) rvEE rvEW):=Z4j fun nm A B C D X _=>⟨ERv Zr9 Zi1 Zqw Zvr Zbu Xp,1000,_,[],Y3j,Ww,by kernel_rfl,W8 _,(Yed ..).trans (by
  unfold rvEE rvEW
  cases Zvr nm with
  |false=>rfl
  |true=>
   simp only[cond_true]
   cases Zd (Zbu (Zr9 nm) (Zi1 nm) (Zqw nm) nm A B C D X) (.ofNat 0) <;> rfl)⟩
end
end Go.Proofs.YtaakhjmfojoodaaGreatDoor
