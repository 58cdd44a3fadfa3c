/- compact.Encode as a summary, for the names that relocations may stand in. -/
import Derived.Test.YtaakhjmfojoodaaGreatDoorCoDec0
namespace Go.Proofs.YtaakhjmfojoodaaGreatDoor
open Go Go.Vai
noncomputable section
set_option maxRecDepth 100000
def Zqq(W:Int):Option (Int×Option (List Int))→Bool
 |some (e,none)=>!(Zd e (.ofNat 0))
 |some (e,some l)=>Zd e (.ofNat 0)&&(match l with | [a,b]=>Zd a (Za .u8 W)&&Zd b (Za .u8 (Zc W 8)) | _=>false)
 |none=>false
theorem Ypl(W:Int):Zqq W (some (.ofNat 0,some (b2 W)))=true:=by simp[Zqq,b2,Ya]
theorem Yst:Nat.blt (Zv []) 4294967281=true:=rfl
theorem Yna:Yq [] [115]=false:=rfl
theorem Zv6{W:Int}{x:Option (Int×Option (List Int))}(h:Zqq W x=true):x=bc (Zd (x.getD (0,none)).1 (.ofNat 0)) (some (.ofNat 0,some (b2 W))) (some ((x.getD (0,none)).1,none)):=by
 unfold Zqq at h
 split at h
 ·rename_i e
  rw[Bool.not_eq_true'] at h
  simp only[Option.getD_some,h,Yg]
 ·rename_i e l
  rw[Bool.and_eq_true] at h
  obtain⟨h1,h2⟩:=h
  split at h2
  ·rename_i a b
   simp only[Bool.and_eq_true,Ya,decide_eq_true_eq] at h2
   obtain⟨rfl,rfl⟩:=h2
   simp only[Option.getD_some,h1,Ym]
   rw[Ya,decide_eq_true_eq] at h1
   subst h1;rfl
  ·cases h2
 ·cases h
def Ywe(_B X:Int):Int:=Za .u16 (Ze .u16 (Za .u16 (Zc X 4)) (.ofNat 1))
def Yu7(_B X:Int):Int:=Za .u16 (Ze .u16 (Za .u16 (Zc X 8)) (.ofNat 3))
def Yv6(_B X:Int):Int:=Za .u16 (Ze .u16 (Za .u16 (Zc X 6)) (.ofNat 1))
def Ytk(_B X:Int):Int:=Za .u16 (Ze .u16 (Za .u16 (Zc X 7)) (.ofNat 1))
def Yus(_B X:Int):Int:=Za .u16 (Ze .u16 (Za .u16 (Zc X 1)) (.ofNat 7))
def Ywd(_B X:Int):Int:=Za .u16 (Ze .u16 (Za .u16 (Zc X 5)) (.ofNat 1))
def Ywq(_B X:Int):Int:=Za .u16 (Ze .u16 (Za .u16 (Zc X 11)) (.ofNat 1))
def Yug(_B X:Int):Int:=Za .u16 (Ze .u16 (Za .u16 (Zc X 10)) (.ofNat 1))
def Zjf(B X:Int):Int:=Za .u16 (Zw .u16 (.ofNat 10) (Ywq B X))
def Ziz(B X:Int):Int:=Za .u16 (Zf (Zjf B X) 1)
def Zfk(B X:Int):Int:=Za .u16 (Zw .u16 (Ziz B X) (Ywe B X))
def Zft(B X:Int):Int:=Za .u16 (Zf (Zfk B X) 2)
def Zfs(B X:Int):Int:=Za .u16 (Zw .u16 (Zft B X) (Yu7 B X))
def Zfj(B X:Int):Int:=Za .u16 (Zf (Zfs B X) 1)
def Zgd(B X:Int):Int:=Za .u16 (Zw .u16 (Zfj B X) (Yug B X))
def Zfe(B X:Int):Int:=Za .u16 (Zf (Zgd B X) 1)
def Zfv(B X:Int):Int:=Za .u16 (Zw .u16 (Zfe B X) (Yv6 B X))
def Ze8(B X:Int):Int:=Za .u16 (Zf (Zfv B X) 1)
def Zfd(B X:Int):Int:=Za .u16 (Zw .u16 (Ze8 B X) (Ytk B X))
def Zfl(B X:Int):Int:=Za .u16 (Zf (Zfd B X) 3)
def Zf0(B X:Int):Int:=Za .u16 (Zw .u16 (Zfl B X) (Yus B X))
def Zgf(B X:Int):Int:=Za .u16 (Zf (Zf0 B X) 1)
def Zfb(B X:Int):Int:=Za .u16 (Zw .u16 (Zgf B X) (Ywd B X))
def Zf8(B X:Int):Int:=Za .u16 (Zf (Zfb B X) 2)
def Zdg(B X:Int):Int:=(Za .u16 (Zw .u16 (Zf8 B X) (.ofNat 1)))
def Zgq(A B C D X:Int):Option (Int×Option (List Int)):=bc (!(Zd A (.ofNat 0))) (some ((.ofNat 13),none)) (bc (!(Zd B (.ofNat 0))) (some ((.ofNat 13),none)) (bc (!(Zd C (.ofNat 0))) (some ((.ofNat 13),none)) (bc (!(Zd D (.ofNat 0))) (some ((.ofNat 13),none)) (bc (Z2 X (.negSucc 2047)) (some ((.ofNat 3),none)) (bc (Z2 (.ofNat 2046) X) (some ((.ofNat 3),none)) (bc (Zd X (.ofNat 0)) (bc (Nat.blt (Zv []) 4294967281) (bc (Yq [] [115]) (some ((.ofNat 3),none)) (bc (!(Zd (Int.tmod X (.ofNat 2)) (.ofNat 0))) (some ((.ofNat 10),none)) (bc (AV.eqb (.int .u16 (Ziz B X)) (.int .u16 (Ziz B X))) (bc (AV.eqb (.int .u16 (Zjf B X)) (.int .u16 (Zjf B X))) (bc (AV.eqb (.int .u16 (Zft B X)) (.int .u16 (Zft B X))) (bc (AV.eqb (.int .u16 (Zfk B X)) (.int .u16 (Zfk B X))) (bc (AV.eqb (.int .u16 (Zfj B X)) (.int .u16 (Zfj B X))) (bc (AV.eqb (.int .u16 (Zfs B X)) (.int .u16 (Zfs B X))) (bc (AV.eqb (.int .u16 (Zfe B X)) (.int .u16 (Zfe B X))) (bc (AV.eqb (.int .u16 (Zgd B X)) (.int .u16 (Zgd B X))) (bc (AV.eqb (.int .u16 (Ze8 B X)) (.int .u16 (Ze8 B X))) (bc (AV.eqb (.int .u16 (Zfv B X)) (.int .u16 (Zfv B X))) (bc (AV.eqb (.int .u16 (Zfl B X)) (.int .u16 (Zfl B X))) (bc (AV.eqb (.int .u16 (Zfd B X)) (.int .u16 (Zfd B X))) (bc (AV.eqb (.int .u16 (Zgf B X)) (.int .u16 (Zgf B X))) (bc (AV.eqb (.int .u16 (Zf0 B X)) (.int .u16 (Zf0 B X))) (bc (AV.eqb (.int .u16 (Zf8 B X)) (.int .u16 (Zf8 B X))) (bc (AV.eqb (.int .u16 (Zfb B X)) (.int .u16 (Zfb B X))) (some (.ofNat 0,some (b2 (Zdg B X)))) (none)) (none)) (none)) (none)) (none)) (none)) (none)) (none)) (none)) (none)) (none)) (none)) (none)) (none)) (none)) (none)))) (none)) (bc (!(Zd (Int.tmod X (.ofNat 2)) (.ofNat 0))) (some ((.ofNat 10),none)) (bc (AV.eqb (.int .u16 (Ziz B X)) (.int .u16 (Ziz B X))) (bc (AV.eqb (.int .u16 (Zjf B X)) (.int .u16 (Zjf B X))) (bc (AV.eqb (.int .u16 (Zft B X)) (.int .u16 (Zft B X))) (bc (AV.eqb (.int .u16 (Zfk B X)) (.int .u16 (Zfk B X))) (bc (AV.eqb (.int .u16 (Zfj B X)) (.int .u16 (Zfj B X))) (bc (AV.eqb (.int .u16 (Zfs B X)) (.int .u16 (Zfs B X))) (bc (AV.eqb (.int .u16 (Zfe B X)) (.int .u16 (Zfe B X))) (bc (AV.eqb (.int .u16 (Zgd B X)) (.int .u16 (Zgd B X))) (bc (AV.eqb (.int .u16 (Ze8 B X)) (.int .u16 (Ze8 B X))) (bc (AV.eqb (.int .u16 (Zfv B X)) (.int .u16 (Zfv B X))) (bc (AV.eqb (.int .u16 (Zfl B X)) (.int .u16 (Zfl B X))) (bc (AV.eqb (.int .u16 (Zfd B X)) (.int .u16 (Zfd B X))) (bc (AV.eqb (.int .u16 (Zgf B X)) (.int .u16 (Zgf B X))) (bc (AV.eqb (.int .u16 (Zf0 B X)) (.int .u16 (Zf0 B X))) (bc (AV.eqb (.int .u16 (Zf8 B X)) (.int .u16 (Zf8 B X))) (bc (AV.eqb (.int .u16 (Zfb B X)) (.int .u16 (Zfb B X))) (some (.ofNat 0,some (b2 (Zdg B X)))) (none)) (none)) (none)) (none)) (none)) (none)) (none)) (none)) (none)) (none)) (none)) (none)) (none)) (none)) (none)) (none)))))))))
theorem Ydn(A B C D X:Int):Yr EC 100000 (.call 68 [Zcp [99,46,106] A B C D X] (Yc 12 gl)) [] (Zbo 5)=Zgq A B C D X:=by kernel_rfl
def Zhf(A B C D X:Int):Int:=((Zgq A B C D X).getD (0,none)).1
theorem Z51(A B C D X:Int):Zgq A B C D X=bc (Zd (Zhf A B C D X) (.ofNat 0)) (some (.ofNat 0,some (b2 (Zdg B X)))) (some (Zhf A B C D X,none)):=by
 have h:Zqq (Zdg B X) (Zgq A B C D X)=true:=by
  unfold Zgq
  simp only[W9,Ym,Yst,Yna,Yg]
  repeat (first|exact Ypl _|rfl|apply Zx (p:=Zqq (Zdg B X)))
 exact Zv6 h
def Z1y(B _X:Int):Int:=Za .u16 (Ze .u16 (Za .u16 B) (.ofNat 7))
def Z2t(_B X:Int):Int:=Za .u16 (Ze .u16 (Za .u16 (Zc X 8)) (.ofNat 1))
def Z3b(_B X:Int):Int:=Za .u16 (Ze .u16 (Za .u16 (Zc X 3)) (.ofNat 3))
def Z6v(_B X:Int):Int:=Za .u16 (Ze .u16 (Za .u16 (Zc X 6)) (.ofNat 3))
def Z4x(_B X:Int):Int:=Za .u16 (Ze .u16 (Za .u16 (Zc X 1)) (.ofNat 3))
def Z36(_B X:Int):Int:=Za .u16 (Ze .u16 (Za .u16 (Zc X 5)) (.ofNat 1))
def Zcz(B X:Int):Int:=Za .u16 (Zw .u16 (.ofNat 12) (Z2t B X))
def Zcn(B X:Int):Int:=Za .u16 (Zf (Zcz B X) 2)
def Zck(B X:Int):Int:=Za .u16 (Zw .u16 (Zcn B X) (Z3b B X))
def Zch(B X:Int):Int:=Za .u16 (Zf (Zck B X) 3)
def Zba(B X:Int):Int:=Za .u16 (Zw .u16 (Zch B X) (Z1y B X))
def Za3(B X:Int):Int:=Za .u16 (Zf (Zba B X) 2)
def Zbm(B X:Int):Int:=Za .u16 (Zw .u16 (Za3 B X) (Z6v B X))
def Zbc(B X:Int):Int:=Za .u16 (Zf (Zbm B X) 2)
def Zbf(B X:Int):Int:=Za .u16 (Zw .u16 (Zbc B X) (Z4x B X))
def Zaz(B X:Int):Int:=Za .u16 (Zf (Zbf B X) 1)
def Za2(B X:Int):Int:=Za .u16 (Zw .u16 (Zaz B X) (Z36 B X))
def Zbn(B X:Int):Int:=Za .u16 (Zf (Za2 B X) 2)
def Jo(B X:Int):Int:=(Za .u16 (Zw .u16 (Zbn B X) (.ofNat 1)))
def Zaq(A B C D X:Int):Option (Int×Option (List Int)):=bc (!(Zd A (.ofNat 0))) (some ((.ofNat 13),none)) (bc (!(Z2 B (.ofNat 8))) (bc (!(!(Z2 (.ofNat 15) B))) (some ((.ofNat 13),none)) (bc (!(Zd C (.ofNat 0))) (some ((.ofNat 13),none)) (bc (!(Zd D (.ofNat 0))) (some ((.ofNat 13),none)) (bc (Z2 X (.negSucc 255)) (some ((.ofNat 3),none)) (bc (Z2 (.ofNat 254) X) (some ((.ofNat 3),none)) (bc (Zd X (.ofNat 0)) (bc (Nat.blt (Zv []) 4294967281) (bc (Yq [] [115]) (some ((.ofNat 3),none)) (bc (!(Zd (Int.tmod X (.ofNat 2)) (.ofNat 0))) (some ((.ofNat 10),none)) (bc (AV.eqb (.int .u16 (Zcn B X)) (.int .u16 (Zcn B X))) (bc (AV.eqb (.int .u16 (Zcz B X)) (.int .u16 (Zcz B X))) (bc (AV.eqb (.int .u16 (Zch B X)) (.int .u16 (Zch B X))) (bc (AV.eqb (.int .u16 (Zck B X)) (.int .u16 (Zck B X))) (bc (AV.eqb (.int .u16 (Za3 B X)) (.int .u16 (Za3 B X))) (bc (AV.eqb (.int .u16 (Zba B X)) (.int .u16 (Zba B X))) (bc (AV.eqb (.int .u16 (Zbc B X)) (.int .u16 (Zbc B X))) (bc (AV.eqb (.int .u16 (Zbm B X)) (.int .u16 (Zbm B X))) (bc (AV.eqb (.int .u16 (Zaz B X)) (.int .u16 (Zaz B X))) (bc (AV.eqb (.int .u16 (Zbf B X)) (.int .u16 (Zbf B X))) (bc (AV.eqb (.int .u16 (Zbn B X)) (.int .u16 (Zbn B X))) (bc (AV.eqb (.int .u16 (Za2 B X)) (.int .u16 (Za2 B X))) (some (.ofNat 0,some (b2 (Jo B X)))) (none)) (none)) (none)) (none)) (none)) (none)) (none)) (none)) (none)) (none)) (none)) (none)))) (none)) (bc (!(Zd (Int.tmod X (.ofNat 2)) (.ofNat 0))) (some ((.ofNat 10),none)) (bc (AV.eqb (.int .u16 (Zcn B X)) (.int .u16 (Zcn B X))) (bc (AV.eqb (.int .u16 (Zcz B X)) (.int .u16 (Zcz B X))) (bc (AV.eqb (.int .u16 (Zch B X)) (.int .u16 (Zch B X))) (bc (AV.eqb (.int .u16 (Zck B X)) (.int .u16 (Zck B X))) (bc (AV.eqb (.int .u16 (Za3 B X)) (.int .u16 (Za3 B X))) (bc (AV.eqb (.int .u16 (Zba B X)) (.int .u16 (Zba B X))) (bc (AV.eqb (.int .u16 (Zbc B X)) (.int .u16 (Zbc B X))) (bc (AV.eqb (.int .u16 (Zbm B X)) (.int .u16 (Zbm B X))) (bc (AV.eqb (.int .u16 (Zaz B X)) (.int .u16 (Zaz B X))) (bc (AV.eqb (.int .u16 (Zbf B X)) (.int .u16 (Zbf B X))) (bc (AV.eqb (.int .u16 (Zbn B X)) (.int .u16 (Zbn B X))) (bc (AV.eqb (.int .u16 (Za2 B X)) (.int .u16 (Za2 B X))) (some (.ofNat 0,some (b2 (Jo B X)))) (none)) (none)) (none)) (none)) (none)) (none)) (none)) (none)) (none)) (none)) (none)) (none))))))))) (some ((.ofNat 13),none)))
theorem Zyh(A B C D X:Int):Yr EC 100000 (.call 68 [Zcp [99,46,98,101,113,122] A B C D X] (Yc 12 gl)) [] (Zbo 5)=Zaq A B C D X:=by kernel_rfl
def Zai(A B C D X:Int):Int:=((Zaq A B C D X).getD (0,none)).1
theorem Zr2(A B C D X:Int):Zaq A B C D X=bc (Zd (Zai A B C D X) (.ofNat 0)) (some (.ofNat 0,some (b2 (Jo B X)))) (some (Zai A B C D X,none)):=by
 have h:Zqq (Jo B X) (Zaq A B C D X)=true:=by
  unfold Zaq
  simp only[W9,Ym,Yst,Yna,Yg]
  repeat (first|exact Ypl _|rfl|apply Zx (p:=Zqq (Jo B X)))
 exact Zv6 h
def Z4w(B _X:Int):Int:=Za .u16 (Ze .u16 (Za .u16 B) (.ofNat 7))
def Z3y(_B X:Int):Int:=Za .u16 (Ze .u16 (Za .u16 (Zc X 8)) (.ofNat 1))
def Z22(_B X:Int):Int:=Za .u16 (Ze .u16 (Za .u16 (Zc X 3)) (.ofNat 3))
def Z5b(_B X:Int):Int:=Za .u16 (Ze .u16 (Za .u16 (Zc X 6)) (.ofNat 3))
def Z14(_B X:Int):Int:=Za .u16 (Ze .u16 (Za .u16 (Zc X 1)) (.ofNat 3))
def Z3o(_B X:Int):Int:=Za .u16 (Ze .u16 (Za .u16 (Zc X 5)) (.ofNat 1))
def Zcs(B X:Int):Int:=Za .u16 (Zw .u16 (.ofNat 14) (Z3y B X))
def Zcf(B X:Int):Int:=Za .u16 (Zf (Zcs B X) 2)
def Zcw(B X:Int):Int:=Za .u16 (Zw .u16 (Zcf B X) (Z22 B X))
def Zcx(B X:Int):Int:=Za .u16 (Zf (Zcw B X) 3)
def Zbe(B X:Int):Int:=Za .u16 (Zw .u16 (Zcx B X) (Z4w B X))
def Za5(B X:Int):Int:=Za .u16 (Zf (Zbe B X) 2)
def Zbh(B X:Int):Int:=Za .u16 (Zw .u16 (Za5 B X) (Z5b B X))
def Zbb(B X:Int):Int:=Za .u16 (Zf (Zbh B X) 2)
def Za1(B X:Int):Int:=Za .u16 (Zw .u16 (Zbb B X) (Z14 B X))
def Zay(B X:Int):Int:=Za .u16 (Zf (Za1 B X) 1)
def Zbd(B X:Int):Int:=Za .u16 (Zw .u16 (Zay B X) (Z3o B X))
def Za0(B X:Int):Int:=Za .u16 (Zf (Zbd B X) 2)
def Jq(B X:Int):Int:=(Za .u16 (Zw .u16 (Za0 B X) (.ofNat 1)))
def Zag(A B C D X:Int):Option (Int×Option (List Int)):=bc (!(Zd A (.ofNat 0))) (some ((.ofNat 13),none)) (bc (!(Z2 B (.ofNat 8))) (bc (!(!(Z2 (.ofNat 15) B))) (some ((.ofNat 13),none)) (bc (!(Zd C (.ofNat 0))) (some ((.ofNat 13),none)) (bc (!(Zd D (.ofNat 0))) (some ((.ofNat 13),none)) (bc (Z2 X (.negSucc 255)) (some ((.ofNat 3),none)) (bc (Z2 (.ofNat 254) X) (some ((.ofNat 3),none)) (bc (Zd X (.ofNat 0)) (bc (Nat.blt (Zv []) 4294967281) (bc (Yq [] [115]) (some ((.ofNat 3),none)) (bc (!(Zd (Int.tmod X (.ofNat 2)) (.ofNat 0))) (some ((.ofNat 10),none)) (bc (AV.eqb (.int .u16 (Zcf B X)) (.int .u16 (Zcf B X))) (bc (AV.eqb (.int .u16 (Zcs B X)) (.int .u16 (Zcs B X))) (bc (AV.eqb (.int .u16 (Zcx B X)) (.int .u16 (Zcx B X))) (bc (AV.eqb (.int .u16 (Zcw B X)) (.int .u16 (Zcw B X))) (bc (AV.eqb (.int .u16 (Za5 B X)) (.int .u16 (Za5 B X))) (bc (AV.eqb (.int .u16 (Zbe B X)) (.int .u16 (Zbe B X))) (bc (AV.eqb (.int .u16 (Zbb B X)) (.int .u16 (Zbb B X))) (bc (AV.eqb (.int .u16 (Zbh B X)) (.int .u16 (Zbh B X))) (bc (AV.eqb (.int .u16 (Zay B X)) (.int .u16 (Zay B X))) (bc (AV.eqb (.int .u16 (Za1 B X)) (.int .u16 (Za1 B X))) (bc (AV.eqb (.int .u16 (Za0 B X)) (.int .u16 (Za0 B X))) (bc (AV.eqb (.int .u16 (Zbd B X)) (.int .u16 (Zbd B X))) (some (.ofNat 0,some (b2 (Jq B X)))) (none)) (none)) (none)) (none)) (none)) (none)) (none)) (none)) (none)) (none)) (none)) (none)))) (none)) (bc (!(Zd (Int.tmod X (.ofNat 2)) (.ofNat 0))) (some ((.ofNat 10),none)) (bc (AV.eqb (.int .u16 (Zcf B X)) (.int .u16 (Zcf B X))) (bc (AV.eqb (.int .u16 (Zcs B X)) (.int .u16 (Zcs B X))) (bc (AV.eqb (.int .u16 (Zcx B X)) (.int .u16 (Zcx B X))) (bc (AV.eqb (.int .u16 (Zcw B X)) (.int .u16 (Zcw B X))) (bc (AV.eqb (.int .u16 (Za5 B X)) (.int .u16 (Za5 B X))) (bc (AV.eqb (.int .u16 (Zbe B X)) (.int .u16 (Zbe B X))) (bc (AV.eqb (.int .u16 (Zbb B X)) (.int .u16 (Zbb B X))) (bc (AV.eqb (.int .u16 (Zbh B X)) (.int .u16 (Zbh B X))) (bc (AV.eqb (.int .u16 (Zay B X)) (.int .u16 (Zay B X))) (bc (AV.eqb (.int .u16 (Za1 B X)) (.int .u16 (Za1 B X))) (bc (AV.eqb (.int .u16 (Za0 B X)) (.int .u16 (Za0 B X))) (bc (AV.eqb (.int .u16 (Zbd B X)) (.int .u16 (Zbd B X))) (some (.ofNat 0,some (b2 (Jq B X)))) (none)) (none)) (none)) (none)) (none)) (none)) (none)) (none)) (none)) (none)) (none)) (none))))))))) (some ((.ofNat 13),none)))
theorem Zuy(A B C D X:Int):Yr EC 100000 (.call 68 [Zcp [99,46,98,110,101,122] A B C D X] (Yc 12 gl)) [] (Zbo 5)=Zag A B C D X:=by kernel_rfl
def Zal(A B C D X:Int):Int:=((Zag A B C D X).getD (0,none)).1
theorem Zrm(A B C D X:Int):Zag A B C D X=bc (Zd (Zal A B C D X) (.ofNat 0)) (some (.ofNat 0,some (b2 (Jq B X)))) (some (Zal A B C D X,none)):=by
 have h:Zqq (Jq B X) (Zag A B C D X)=true:=by
  unfold Zag
  simp only[W9,Ym,Yst,Yna,Yg]
  repeat (first|exact Ypl _|rfl|apply Zx (p:=Zqq (Jq B X)))
 exact Zv6 h
def coEE(nm:List UInt8)(A B C D X:Int):Int:=bif leq nm [99,46,106] then Zhf A B C D X else bif leq nm [99,46,98,101,113,122] then Zai A B C D X else Zal A B C D X
def coEW(nm:List UInt8)(_A B _C _D X:Int):Int:=bif leq nm [99,46,106] then Zdg B X else bif leq nm [99,46,98,101,113,122] then Jo B X else Jq B X
def coG(nm:List UInt8):Bool:=leq [99,46,106] nm||(leq [99,46,98,101,113,122] nm||leq [99,46,98,110,101,122] nm)
theorem Zs9:Zr Tryz.prog gl (Jn 68 5 b2 coG coEE coEW):=Z4j fun nm A B C D X hG=>by
 unfold coG at hG
 simp only[Bool.or_eq_true,Q6,decide_eq_true_eq] at hG
 rcases hG with rfl|rfl|rfl
 ·exact⟨EC,100000,_,[],Z08,Ww,by kernel_rfl,W8 _,(Ydn A B C D X).trans (Z51 A B C D X)⟩
 ·exact⟨EC,100000,_,[],Z08,Ww,by kernel_rfl,W8 _,(Zyh A B C D X).trans (Zr2 A B C D X)⟩
 ·exact⟨EC,100000,_,[],Z08,Ww,by kernel_rfl,W8 _,(Zuy A B C D X).trans (Zrm A B C D X)⟩
end
end Go.Proofs.YtaakhjmfojoodaaGreatDoor
namespace Go.Proofs.YtaakhjmfojoodaaGreatDoor
open Go Go.Vai
noncomputable section
set_option maxRecDepth 100000
theorem coS0(w:Int)(T4:Tr AV):Z6 EC (Yu EC 20) (flat Wg) (Yy 12 SC kc2) (Yx 62 SC (vC w 0)) (Xm 12 [Yv T4,Xe])=coL w 0 T4 (Yai w):=by
 unfold Yai K3
 simp only[Xs,Xr]
 kernel_rfl
theorem coS1(w:Int)(T4:Tr AV):Z6 EC (Yu EC 20) (flat Wg) (Yy 12 SC kc2) (Yx 62 SC (vC w 1)) (Xm 12 [Yv T4,Xe])=coL w 1 T4 (Z95 w):=by
 unfold Z95 K3
 simp only[Xs,Xr]
 kernel_rfl
theorem coS2(w:Int)(T4:Tr AV):Z6 EC (Yu EC 20) (flat Wg) (Yy 12 SC kc2) (Yx 62 SC (vC w 2)) (Xm 12 [Yv T4,Xe])=coL w 2 T4 (Yer w):=by
 unfold Yer K3
 simp only[Xs,Xr]
 kernel_rfl
theorem coS3(w:Int)(T4:Tr AV):Z6 EC (Yu EC 20) (flat Wg) (Yy 12 SC kc2) (Yx 62 SC (vC w 3)) (Xm 12 [Yv T4,Xe])=coL w 3 T4 (Ycx w):=by
 unfold Ycx K3
 simp only[Xs,Xr]
 kernel_rfl
theorem coS4(w:Int)(T4:Tr AV):Z6 EC (Yu EC 20) (flat Wg) (Yy 12 SC kc2) (Yx 62 SC (vC w 4)) (Xm 12 [Yv T4,Xe])=coL w 4 T4 (Yet w):=by
 unfold Yet K3
 simp only[Xs,Xr]
 kernel_rfl
theorem coS5(w:Int)(T4:Tr AV):Z6 EC (Yu EC 20) (flat Wg) (Yy 12 SC kc2) (Yx 62 SC (vC w 5)) (Xm 12 [Yv T4,Xe])=coL w 5 T4 (Ycz w):=by
 unfold Ycz
 simp only[Xs,Xr]
 kernel_rfl
theorem coS6(w:Int)(T4:Tr AV):Z6 EC (Yu EC 20) (flat Wg) (Yy 12 SC kc2) (Yx 62 SC (vC w 6)) (Xm 12 [Yv T4,Xe])=coL w 6 T4 (Yar w):=by
 unfold Yar ci2 cr
 simp only[Xs,Xr]
 kernel_rfl
theorem coS7(w:Int)(T4:Tr AV):Z6 EC (Yu EC 20) (flat Wg) (Yy 12 SC kc2) (Yx 62 SC (vC w 7)) (Xm 12 [Yv T4,Xe])=coL w 7 T4 (Yb9 w):=by
 unfold Yb9 K3 cr
 simp only[Xs,Xr]
 kernel_rfl
theorem coS8(w:Int)(T4:Tr AV):Z6 EC (Yu EC 20) (flat Wg) (Yy 12 SC kc2) (Yx 62 SC (vC w 8)) (Xm 12 [Yv T4,Xe])=coL w 8 T4 (Yag w):=by
 unfold Yag K3 cr
 simp only[Xs,Xr]
 kernel_rfl
theorem coS9(w:Int)(T4:Tr AV):Z6 EC (Yu EC 20) (flat Wg) (Yy 12 SC kc2) (Yx 62 SC (vC w 9)) (Xm 12 [Yv T4,Xe])=coL w 9 T4 (Yao w):=by
 unfold Yao ci2
 simp only[Xs,Xr]
 kernel_rfl
theorem Y9p(w:Int)(T4:Tr AV):Z6 EC (Yu EC 20) (flat Wg) (Yy 12 SC kc2) (Yx 62 SC (vC w 10)) (Xm 12 [Yv T4,Xe])=coL w 10 T4 (Zth w):=by
 unfold Zth ci2 cr
 simp only[Xs,Xr]
 kernel_rfl
end
end Go.Proofs.YtaakhjmfojoodaaGreatDoor
namespace Go.Proofs.YtaakhjmfojoodaaGreatDoor
open Go Go.Vai
noncomputable section
set_option maxRecDepth 100000
theorem coS11(w:Int)(T4:Tr AV):Z6 EC (Yu EC 20) (flat Wg) (Yy 12 SC kc2) (Yx 62 SC (vC w 11)) (Xm 12 [Yv T4,Xe])=coL w 11 T4 (Zs1 w):=by
 unfold Zs1 K3
 simp only[Xs,Xr]
 kernel_rfl
theorem Y85(w:Int)(T4:Tr AV):Z6 EC (Yu EC 20) (flat Wg) (Yy 12 SC kc2) (Yx 62 SC (vC w 12)) (Xm 12 [Yv T4,Xe])=coL w 12 T4 (Ztk w):=by
 unfold Ztk K3
 simp only[Xs,Xr]
 kernel_rfl
theorem coS13(w:Int)(T4:Tr AV):Z6 EC (Yu EC 20) (flat Wg) (Yy 12 SC kc2) (Yx 62 SC (vC w 13)) (Xm 12 [Yv T4,Xe])=coL w 13 T4 (Zug w):=by
 unfold Zug K3
 simp only[Xs,Xr]
 kernel_rfl
theorem Y98(w:Int)(T4:Tr AV):Z6 EC (Yu EC 20) (flat Wg) (Yy 12 SC kc2) (Yx 62 SC (vC w 14)) (Xm 12 [Yv T4,Xe])=coL w 14 T4 (Zsh w):=by
 unfold Zsh
 simp only[Xs,Xr]
 kernel_rfl
theorem Y8o(w:Int)(T4:Tr AV):Z6 EC (Yu EC 20) (flat Wg) (Yy 12 SC kc2) (Yx 62 SC (vC w 15)) (Xm 12 [Yv T4,Xe])=coL w 15 T4 (Zsn w):=by
 unfold Zsn
 simp only[Xs,Xr]
 kernel_rfl
theorem Y75(w:Int)(T4:Tr AV):Z6 EC (Yu EC 20) (flat Wg) (Yy 12 SC kc2) (Yx 62 SC (vC w 16)) (Xm 12 [Yv T4,Xe])=coL w 16 T4 (Zts w):=by
 unfold Zts
 simp only[Xs,Xr]
 kernel_rfl
theorem coS17(w:Int)(T4:Tr AV):Z6 EC (Yu EC 20) (flat Wg) (Yy 12 SC kc2) (Yx 62 SC (vC w 17)) (Xm 12 [Yv T4,Xe])=coL w 17 T4 (Ztw w):=by
 unfold Ztw
 simp only[Xs,Xr]
 kernel_rfl
theorem Y64(w:Int)(T4:Tr AV):Z6 EC (Yu EC 20) (flat Wg) (Yy 12 SC kc2) (Yx 62 SC (vC w 18)) (Xm 12 [Yv T4,Xe])=coL w 18 T4 (Ztz w):=by
 unfold Ztz
 simp only[Xs,Xr]
 kernel_rfl
theorem Y8f(w:Int)(T4:Tr AV):Z6 EC (Yu EC 20) (flat Wg) (Yy 12 SC kc2) (Yx 62 SC (vC w 19)) (Xm 12 [Yv T4,Xe])=coL w 19 T4 (Zuh w):=by
 unfold Zuh
 simp only[Xs,Xr]
 kernel_rfl
theorem Y5y(w:Int)(T4:Tr AV):Z6 EC (Yu EC 20) (flat Wg) (Yy 12 SC kc2) (Yx 62 SC (vC w 20)) (Xm 12 [Yv T4,Xe])=coL w 20 T4 (Zs7 w):=by
 unfold Zs7 K3
 simp only[Xs,Xr]
 kernel_rfl
theorem Y7i(w:Int)(T4:Tr AV):Z6 EC (Yu EC 20) (flat Wg) (Yy 12 SC kc2) (Yx 62 SC (vC w 21)) (Xm 12 [Yv T4,Xe])=coL w 21 T4 (Zsv w):=by
 unfold Zsv K3
 simp only[Xs,Xr]
 kernel_rfl
end
end Go.Proofs.YtaakhjmfojoodaaGreatDoor
namespace Go.Proofs.YtaakhjmfojoodaaGreatDoor
open Go Go.Vai
noncomputable section
set_option maxRecDepth 100000
theorem Y69(w:Int)(T4:Tr AV):Z6 EC (Yu EC 20) (flat Wg) (Yy 12 SC kc2) (Yx 62 SC (vC w 22)) (Xm 12 [Yv T4,Xe])=coL w 22 T4 (Ztc w):=by
 unfold Ztc K3
 simp only[Xs,Xr]
 kernel_rfl
theorem coS23(w:Int)(T4:Tr AV):Z6 EC (Yu EC 20) (flat Wg) (Yy 12 SC kc2) (Yx 62 SC (vC w 23)) (Xm 12 [Yv T4,Xe])=coL w 23 T4 (Ztl w):=by
 unfold Ztl K3 cr
 simp only[Xs,Xr]
 kernel_rfl
theorem Y7v(w:Int)(T4:Tr AV):Z6 EC (Yu EC 20) (flat Wg) (Yy 12 SC kc2) (Yx 62 SC (vC w 24)) (Xm 12 [Yv T4,Xe])=coL w 24 T4 (Zud w):=by
 unfold Zud K3 cr
 simp only[Xs,Xr]
 kernel_rfl
theorem Y8a(w:Int)(T4:Tr AV):Z6 EC (Yu EC 20) (flat Wg) (Yy 12 SC kc2) (Yx 62 SC (vC w 25)) (Xm 12 [Yv T4,Xe])=coL w 25 T4 (Zst w):=by
 unfold Zst K3 cr
 simp only[Xs,Xr]
 kernel_rfl
theorem Y68(w:Int)(T4:Tr AV):Z6 EC (Yu EC 20) (flat Wg) (Yy 12 SC kc2) (Yx 62 SC (vC w 26)) (Xm 12 [Yv T4,Xe])=coL w 26 T4 (Zt8 w):=by
 unfold Zt8 cr
 simp only[Xs,Xr]
 kernel_rfl
theorem Y50(w:Int)(T4:Tr AV):Z6 EC (Yu EC 20) (flat Wg) (Yy 12 SC kc2) (Yx 62 SC (vC w 27)) (Xm 12 [Yv T4,Xe])=coL w 27 T4 (Zs2 w):=by
 unfold Zs2 cr
 simp only[Xs,Xr]
 kernel_rfl
theorem coS28(w:Int)(T4:Tr AV):Z6 EC (Yu EC 20) (flat Wg) (Yy 12 SC kc2) (Yx 62 SC (vC w 28)) (Xm 12 [Yv T4,Xe])=coL w 28 T4 (Zsr w):=by
 unfold Zsr cr
 simp only[Xs,Xr]
 kernel_rfl
theorem Y65(w:Int)(T4:Tr AV):Z6 EC (Yu EC 20) (flat Wg) (Yy 12 SC kc2) (Yx 62 SC (vC w 29)) (Xm 12 [Yv T4,Xe])=coL w 29 T4 (Zt1 w):=by
 unfold Zt1 cr
 simp only[Xs,Xr]
 kernel_rfl
theorem Y8c(w:Int)(T4:Tr AV):Z6 EC (Yu EC 20) (flat Wg) (Yy 12 SC kc2) (Yx 62 SC (vC w 30)) (Xm 12 [Yv T4,Xe])=coL w 30 T4 (Ztg w):=by
 unfold Ztg
 simp only[Xs,Xr]
 kernel_rfl
theorem Y55(w:Int)(T4:Tr AV):Z6 EC (Yu EC 20) (flat Wg) (Yy 12 SC kc2) (Yx 62 SC (vC w 31)) (Xm 12 [Yv T4,Xe])=coL w 31 T4 (Zs6 w):=by
 unfold Zs6 K3 cr
 simp only[Xs,Xr]
 kernel_rfl
theorem Y6k(w:Int)(T4:Tr AV):Z6 EC (Yu EC 20) (flat Wg) (Yy 12 SC kc2) (Yx 62 SC (vC w 32)) (Xm 12 [Yv T4,Xe])=coL w 32 T4 (Zs8 w):=by
 unfold Zs8 K3 cr
 simp only[Xs,Xr]
 kernel_rfl
end
end Go.Proofs.YtaakhjmfojoodaaGreatDoor
