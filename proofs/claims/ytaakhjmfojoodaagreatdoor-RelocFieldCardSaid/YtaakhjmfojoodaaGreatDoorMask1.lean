/- Package mask: an element as often as it fits. -/
import Derived.Test.YtaakhjmfojoodaaGreatDoorRvDec0
namespace Go.Proofs.YtaakhjmfojoodaaGreatDoor
open Go Go.Vai
noncomputable section
set_option maxRecDepth 100000
theorem Z9c{e r:Nat}(h:r≤e)(he:e≤64):Za .i64 (Int.sub (.ofNat e) (.ofNat r))=.ofNat (e - r):=by
 have:Int.sub (.ofNat e) (.ofNat r)=.ofNat (e - r):=by
  show(Int.ofNat e) - (Int.ofNat r)=Int.ofNat (e - r)
  simp only[Int.ofNat_eq_natCast]
  omega
 rw[this]
 exact Zb8 (by show e - r<9223372036854775808;omega)
theorem Zzj(a:Nat):Z2 (.ofNat a) (.ofNat 0)=false:=rfl
def Y4j(x:Int):Option AV:=some (.int .u64 (Za .u64 (Zw .u64 (Za .u64 (Zw .u64 (Za .u64 (Zw .u64 (Za .u64 (Zw .u64 (Za .u64 (Zw .u64 x (Za .u64 (Zf x 2)))) (Za .u64 (Zf (Za .u64 (Zw .u64 x (Za .u64 (Zf x 2)))) 4)))) (Za .u64 (Zf (Za .u64 (Zw .u64 (Za .u64 (Zw .u64 x (Za .u64 (Zf x 2)))) (Za .u64 (Zf (Za .u64 (Zw .u64 x (Za .u64 (Zf x 2)))) 4)))) 8)))) (Za .u64 (Zf (Za .u64 (Zw .u64 (Za .u64 (Zw .u64 (Za .u64 (Zw .u64 x (Za .u64 (Zf x 2)))) (Za .u64 (Zf (Za .u64 (Zw .u64 x (Za .u64 (Zf x 2)))) 4)))) (Za .u64 (Zf (Za .u64 (Zw .u64 (Za .u64 (Zw .u64 x (Za .u64 (Zf x 2)))) (Za .u64 (Zf (Za .u64 (Zw .u64 x (Za .u64 (Zf x 2)))) 4)))) 8)))) 16)))) (Za .u64 (Zf (Za .u64 (Zw .u64 (Za .u64 (Zw .u64 (Za .u64 (Zw .u64 (Za .u64 (Zw .u64 x (Za .u64 (Zf x 2)))) (Za .u64 (Zf (Za .u64 (Zw .u64 x (Za .u64 (Zf x 2)))) 4)))) (Za .u64 (Zf (Za .u64 (Zw .u64 (Za .u64 (Zw .u64 x (Za .u64 (Zf x 2)))) (Za .u64 (Zf (Za .u64 (Zw .u64 x (Za .u64 (Zf x 2)))) 4)))) 8)))) (Za .u64 (Zf (Za .u64 (Zw .u64 (Za .u64 (Zw .u64 (Za .u64 (Zw .u64 x (Za .u64 (Zf x 2)))) (Za .u64 (Zf (Za .u64 (Zw .u64 x (Za .u64 (Zf x 2)))) 4)))) (Za .u64 (Zf (Za .u64 (Zw .u64 (Za .u64 (Zw .u64 x (Za .u64 (Zf x 2)))) (Za .u64 (Zf (Za .u64 (Zw .u64 x (Za .u64 (Zf x 2)))) 4)))) 8)))) 16)))) 32)))))
theorem Ywt(x:Int):Yr ML0 1000 (.call 134 [.int .u64 x,.int .i64 (.ofNat 2)] (Yc 12 gl)) [] jK=Y4j x:=by kernel_rfl
theorem Y1v(x:Int):Zmi (Y4j x)=true:=rfl
def Y36(x:Int):Option AV:=some (.int .u64 (Za .u64 (Zw .u64 (Za .u64 (Zw .u64 (Za .u64 (Zw .u64 (Za .u64 (Zw .u64 x (Za .u64 (Zf x 4)))) (Za .u64 (Zf (Za .u64 (Zw .u64 x (Za .u64 (Zf x 4)))) 8)))) (Za .u64 (Zf (Za .u64 (Zw .u64 (Za .u64 (Zw .u64 x (Za .u64 (Zf x 4)))) (Za .u64 (Zf (Za .u64 (Zw .u64 x (Za .u64 (Zf x 4)))) 8)))) 16)))) (Za .u64 (Zf (Za .u64 (Zw .u64 (Za .u64 (Zw .u64 (Za .u64 (Zw .u64 x (Za .u64 (Zf x 4)))) (Za .u64 (Zf (Za .u64 (Zw .u64 x (Za .u64 (Zf x 4)))) 8)))) (Za .u64 (Zf (Za .u64 (Zw .u64 (Za .u64 (Zw .u64 x (Za .u64 (Zf x 4)))) (Za .u64 (Zf (Za .u64 (Zw .u64 x (Za .u64 (Zf x 4)))) 8)))) 16)))) 32)))))
theorem Ywh(x:Int):Yr ML0 1000 (.call 134 [.int .u64 x,.int .i64 (.ofNat 4)] (Yc 12 gl)) [] jK=Y36 x:=by kernel_rfl
theorem Y0o(x:Int):Zmi (Y36 x)=true:=rfl
def Y00(x:Int):Option AV:=some (.int .u64 (Za .u64 (Zw .u64 (Za .u64 (Zw .u64 (Za .u64 (Zw .u64 x (Za .u64 (Zf x 8)))) (Za .u64 (Zf (Za .u64 (Zw .u64 x (Za .u64 (Zf x 8)))) 16)))) (Za .u64 (Zf (Za .u64 (Zw .u64 (Za .u64 (Zw .u64 x (Za .u64 (Zf x 8)))) (Za .u64 (Zf (Za .u64 (Zw .u64 x (Za .u64 (Zf x 8)))) 16)))) 32)))))
theorem Ywj(x:Int):Yr ML0 1000 (.call 134 [.int .u64 x,.int .i64 (.ofNat 8)] (Yc 12 gl)) [] jK=Y00 x:=by kernel_rfl
theorem Y3w(x:Int):Zmi (Y00 x)=true:=rfl
def Ypt(x:Int):Option AV:=some (.int .u64 (Za .u64 (Zw .u64 (Za .u64 (Zw .u64 x (Za .u64 (Zf x 16)))) (Za .u64 (Zf (Za .u64 (Zw .u64 x (Za .u64 (Zf x 16)))) 32)))))
theorem Yg1(x:Int):Yr ML0 1000 (.call 134 [.int .u64 x,.int .i64 (.ofNat 16)] (Yc 12 gl)) [] jK=Ypt x:=by kernel_rfl
theorem Yyc(x:Int):Zmi (Ypt x)=true:=rfl
def Ym1(x:Int):Option AV:=some (.int .u64 (Za .u64 (Zw .u64 x (Za .u64 (Zf x 32)))))
theorem Yqt(x:Int):Yr ML0 1000 (.call 134 [.int .u64 x,.int .i64 (.ofNat 32)] (Yc 12 gl)) [] jK=Ym1 x:=by kernel_rfl
theorem Yvz(x:Int):Zmi (Ym1 x)=true:=rfl
def Yfa(x:Int):Option AV:=some (.int .u64 x)
theorem Yso(x:Int):Yr ML0 1000 (.call 134 [.int .u64 x,.int .i64 (.ofNat 64)] (Yc 12 gl)) [] jK=Yfa x:=by kernel_rfl
theorem Yx1(x:Int):Zmi (Yfa x)=true:=rfl
def spT(x:Int)(e:Nat):Option AV:=bif Nat.beq e 2 then Y4j x else bif Nat.beq e 4 then Y36 x else bif Nat.beq e 8 then Y00 x else bif Nat.beq e 16 then Ypt x else bif Nat.beq e 32 then Ym1 x else bif Nat.beq e 64 then Yfa x else none
def spV(x:Int)(e:Nat):Int:=Va ((spT x e).getD .nilp)
theorem Y1q{x:Int}{e:Nat}(hg:(Nat.beq e 2||Nat.beq e 4||Nat.beq e 8||Nat.beq e 16||Nat.beq e 32||Nat.beq e 64)=true):Yr ML0 1000 (.call 134 [.int .u64 x,.int .i64 (.ofNat e)] (Yc 12 gl)) [] jK=some (.int .u64 (spV x e)):=by
 simp only[Bool.or_eq_true,Nat.beq_eq,or_assoc] at hg
 rcases hg with rfl|rfl|rfl|rfl|rfl|rfl
 ·exact(Ywt x).trans (Zc7 (Y1v x))
 ·exact(Ywh x).trans (Zc7 (Y0o x))
 ·exact(Ywj x).trans (Zc7 (Y3w x))
 ·exact(Yg1 x).trans (Zc7 (Yyc x))
 ·exact(Yqt x).trans (Zc7 (Yvz x))
 ·exact(Yso x).trans (Zc7 (Yx1 x))
def spF:List AV→Option AV
 |[.int .u64 x,.int .i64 (.ofNat e)]=>bif (Nat.beq e 2||Nat.beq e 4||Nat.beq e 8||Nat.beq e 16||Nat.beq e 32||Nat.beq e 64) then some (.int .u64 (spV x e)) else none
 |_=>none
def MF1:Nat→List AV→Option AV:=fun f args=>bif Nat.beq f 134 then spF args else none
theorem Zo9(f:Nat)(args:List AV)(v:AV)(h:MF1 f args=some v):∃(E:Env)(n:Nat)(s:Smk AV),Qp E s∧(∀ w,Z4 gl w→EnvOk E Tryz.prog (Kept gl w))∧(gl.all fun x=>Nat.blt x.1 E.ng)=true∧(E.fn f).isSome=true∧(∀ a∈args,Plain a)∧∃ o,W2 E s Qe n (.call f args (Yc E.ng gl)) o jK=some v:=by
 unfold MF1 at h
 simp only[Bool.cond_eq_ite,Nat.beq_eq] at h
 split at h
 ·rename_i e
  subst e
  unfold spF at h
  split at h
  ·rw[Bool.cond_eq_ite] at h
   split at h
   ·rename_i hg
    simp only[Option.some.injEq] at h
    subst h
    exact⟨ML0,1000,_,W8 _,Y1m,Ww,by kernel_rfl,Zh rfl,⟨[],Y1q hg⟩⟩
   ·cases h
  ·cases h
 ·cases h
def ML1:Env:=Q0 Tryz.prog 12 [136,135,134] (Z9 (Vy kinds) (Z9 (Yo MF0) (Yo MF1)))
theorem Yg3(w:World)(hw:Z4 gl w):EnvOk ML1 Tryz.prog (Kept gl w):=Xv (by kernel_rfl) ((Xx V4).or ((W4 Zlm).or (W0 Zo9))) Xw (fun _ _ _ h=>h.1) (Zz hw).ext
end
end Go.Proofs.YtaakhjmfojoodaaGreatDoor
