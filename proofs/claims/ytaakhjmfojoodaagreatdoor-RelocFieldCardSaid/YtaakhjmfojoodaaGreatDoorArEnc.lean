/- arm.Encode as a summary, for the names that relocations may stand in. -/
import Derived.Test.YtaakhjmfojoodaaGreatDoorHeads
namespace Go.Proofs.YtaakhjmfojoodaaGreatDoor
open Go Go.Vai
noncomputable section
set_option maxRecDepth 100000
def Z58(n:List UInt8):ArRow:=(Wm.find? fun x=>leq x.nm n).getD ⟨[],0,⟨0,0,0,0,0,0⟩,⟨0,0,0,0,0,0⟩,⟨0,0,0,0,0,0⟩,⟨0,0,0,0,0,0⟩,⟨0,0,0,0,0,0⟩,[]⟩
def Y19(x:ArRow)(nm:List UInt8)(A B C D X:Int):Int:=Kb x.nm x.w x.a.t x.a.b x.a.k x.a.y x.a.l x.a.h x.b.t x.b.b x.b.k x.b.y x.b.l x.b.h x.c.t x.c.b x.c.k x.c.y x.c.l x.c.h x.d.t x.d.b x.d.k x.d.y x.d.l x.d.h x.m.t x.m.b x.m.k x.m.y x.m.l x.m.h x.ops nm A B C D X
def Y4c(x:ArRow)(nm:List UInt8)(A B C D X:Int):Int:=J6 x.nm x.w x.a.t x.a.b x.a.k x.a.y x.a.l x.a.h x.b.t x.b.b x.b.k x.b.y x.b.l x.b.h x.c.t x.c.b x.c.k x.c.y x.c.l x.c.h x.d.t x.d.b x.d.k x.d.y x.d.l x.d.h x.m.t x.m.b x.m.k x.m.y x.m.l x.m.h x.ops nm A B C D X
def arEE(nm:List UInt8)(A B C D X:Int):Int:=Y19 (Z58 nm) nm A B C D X
def arEW(nm:List UInt8)(A B C D X:Int):Int:=Y4c (Z58 nm) nm A B C D X
def EAr:Env:=Q0 Tryz.prog 12 [21,65,63,64] (Z9 (Vy kinds) (Z9 (Jm 21) (Z9 (J2 Zik) (Yo AF5))))
theorem Y0r(w:World)(hw:Z4 gl w):EnvOk EAr Tryz.prog (Kept gl w):=Xv (by kernel_rfl) ((Xx V4).or (Zbi.or (Zsf.or (W0 Yly)))) Xw (fun _ _ _ h=>h.1) (Zz hw).ext
def Zvp:List (List UInt8):=[[97,100,114],[97,100,114,112],[97,100,100,46,105],[108,100,114,98],[115,116,114,98],[108,100,114,104],[115,116,114,104],[108,100,114,46,119],[115,116,114,46,119],[108,100,114,115,119],[108,100,114],[115,116,114],[98,46,99],[99,98,122],[99,98,110,122],[98],[98,108]]
def Qy(flt wrd:Int):Option (Int×Option (List Int)):=bc (!(Zd flt (.ofNat 0))) (some (flt,none)) (some (.ofNat 0,some (b4 wrd)))
theorem Yen(A B C D X:Int):Yr EAr 100000 (.call 39 [Zcp [97,100,114] A B C D X] (Yc 12 gl)) [] (Zbo 5)=Qy (arEE [97,100,114] A B C D X) (arEW [97,100,114] A B C D X):=by kernel_rfl
theorem Z4i(A B C D X:Int):Yr EAr 100000 (.call 39 [Zcp [97,100,114,112] A B C D X] (Yc 12 gl)) [] (Zbo 5)=Qy (arEE [97,100,114,112] A B C D X) (arEW [97,100,114,112] A B C D X):=by kernel_rfl
theorem Zy0(A B C D X:Int):Yr EAr 100000 (.call 39 [Zcp [97,100,100,46,105] A B C D X] (Yc 12 gl)) [] (Zbo 5)=Qy (arEE [97,100,100,46,105] A B C D X) (arEW [97,100,100,46,105] A B C D X):=by kernel_rfl
theorem Z6c(A B C D X:Int):Yr EAr 100000 (.call 39 [Zcp [108,100,114,98] A B C D X] (Yc 12 gl)) [] (Zbo 5)=Qy (arEE [108,100,114,98] A B C D X) (arEW [108,100,114,98] A B C D X):=by kernel_rfl
theorem Z42(A B C D X:Int):Yr EAr 100000 (.call 39 [Zcp [115,116,114,98] A B C D X] (Yc 12 gl)) [] (Zbo 5)=Qy (arEE [115,116,114,98] A B C D X) (arEW [115,116,114,98] A B C D X):=by kernel_rfl
theorem Z2c(A B C D X:Int):Yr EAr 100000 (.call 39 [Zcp [108,100,114,104] A B C D X] (Yc 12 gl)) [] (Zbo 5)=Qy (arEE [108,100,114,104] A B C D X) (arEW [108,100,114,104] A B C D X):=by kernel_rfl
theorem Z37(A B C D X:Int):Yr EAr 100000 (.call 39 [Zcp [115,116,114,104] A B C D X] (Yc 12 gl)) [] (Zbo 5)=Qy (arEE [115,116,114,104] A B C D X) (arEW [115,116,114,104] A B C D X):=by kernel_rfl
theorem Z1f(A B C D X:Int):Yr EAr 100000 (.call 39 [Zcp [108,100,114,46,119] A B C D X] (Yc 12 gl)) [] (Zbo 5)=Qy (arEE [108,100,114,46,119] A B C D X) (arEW [108,100,114,46,119] A B C D X):=by kernel_rfl
theorem Z1m(A B C D X:Int):Yr EAr 100000 (.call 39 [Zcp [115,116,114,46,119] A B C D X] (Yc 12 gl)) [] (Zbo 5)=Qy (arEE [115,116,114,46,119] A B C D X) (arEW [115,116,114,46,119] A B C D X):=by kernel_rfl
theorem Zz0(A B C D X:Int):Yr EAr 100000 (.call 39 [Zcp [108,100,114,115,119] A B C D X] (Yc 12 gl)) [] (Zbo 5)=Qy (arEE [108,100,114,115,119] A B C D X) (arEW [108,100,114,115,119] A B C D X):=by kernel_rfl
theorem Z90(A B C D X:Int):Yr EAr 100000 (.call 39 [Zcp [108,100,114] A B C D X] (Yc 12 gl)) [] (Zbo 5)=Qy (arEE [108,100,114] A B C D X) (arEW [108,100,114] A B C D X):=by kernel_rfl
theorem Yd4(A B C D X:Int):Yr EAr 100000 (.call 39 [Zcp [115,116,114] A B C D X] (Yc 12 gl)) [] (Zbo 5)=Qy (arEE [115,116,114] A B C D X) (arEW [115,116,114] A B C D X):=by kernel_rfl
theorem Yeg(A B C D X:Int):Yr EAr 100000 (.call 39 [Zcp [98,46,99] A B C D X] (Yc 12 gl)) [] (Zbo 5)=Qy (arEE [98,46,99] A B C D X) (arEW [98,46,99] A B C D X):=by kernel_rfl
theorem Ycf(A B C D X:Int):Yr EAr 100000 (.call 39 [Zcp [99,98,122] A B C D X] (Yc 12 gl)) [] (Zbo 5)=Qy (arEE [99,98,122] A B C D X) (arEW [99,98,122] A B C D X):=by kernel_rfl
theorem Z43(A B C D X:Int):Yr EAr 100000 (.call 39 [Zcp [99,98,110,122] A B C D X] (Yc 12 gl)) [] (Zbo 5)=Qy (arEE [99,98,110,122] A B C D X) (arEW [99,98,110,122] A B C D X):=by kernel_rfl
theorem Ytx(A B C D X:Int):Yr EAr 100000 (.call 39 [Zcp [98] A B C D X] (Yc 12 gl)) [] (Zbo 5)=Qy (arEE [98] A B C D X) (arEW [98] A B C D X):=by kernel_rfl
theorem Yld(A B C D X:Int):Yr EAr 100000 (.call 39 [Zcp [98,108] A B C D X] (Yc 12 gl)) [] (Zbo 5)=Qy (arEE [98,108] A B C D X) (arEW [98,108] A B C D X):=by kernel_rfl
theorem Ya4:∀ nm∈Zvp,∀ A B C D X:Int,Yr EAr 100000 (.call 39 [Zcp nm A B C D X] (Yc 12 gl)) [] (Zbo 5)=Qy (arEE nm A B C D X) (arEW nm A B C D X):=by
 intro nm h
 simp only[Zvp,List.mem_cons,List.not_mem_nil,or_false] at h
 rcases h with rfl|rfl|rfl|rfl|rfl|rfl|rfl|rfl|rfl|rfl|rfl|rfl|rfl|rfl|rfl|rfl|rfl
 ·exact Yen
 ·exact Z4i
 ·exact Zy0
 ·exact Z6c
 ·exact Z42
 ·exact Z2c
 ·exact Z37
 ·exact Z1f
 ·exact Z1m
 ·exact Zz0
 ·exact Z90
 ·exact Yd4
 ·exact Yeg
 ·exact Ycf
 ·exact Z43
 ·exact Ytx
 ·exact Yld
def arG(nm:List UInt8):Bool:=Zvp.any fun m=>leq m nm
theorem Zs4:Zr Tryz.prog gl (Jn 39 5 b4 arG arEE arEW):=Z4j fun nm A B C D X hG=>by
 obtain⟨m,hm,he⟩:=List.any_eq_true.1 hG
 rw[Q6,decide_eq_true_eq] at he
 subst he
 refine⟨EAr,100000,_,[],Y0r,Ww,by kernel_rfl,W8 _,(Ya4 m hm A B C D X).trans ?_⟩
 unfold Qy
 cases Zd (arEE m A B C D X) (.ofNat 0) <;> rfl
end
end Go.Proofs.YtaakhjmfojoodaaGreatDoor
namespace Go.Proofs.YtaakhjmfojoodaaGreatDoor
open Go Go.Vai
noncomputable section
set_option maxRecDepth 100000
theorem Z5x{x:Int}(h:0≤x∧x<4294967296):x=(bw x:Int):=by
 have hb:=Zh3 (k:=.u32) (x:=x)
 rw[show((2 ^ IntKind.u32.bits:Nat):Int)=4294967296 from rfl,Int.emod_eq_of_lt h.1 h.2] at hb
 exact hb.symm
theorem Xd{x y:Int}(hx:0≤x∧x<4294967296)(hy:0≤y∧y<4294967296)(t b:Nat)(h:∀ i,t≤i→i<t+b→(bw x).testBit i=(bw y).testBit i):x / ((2 ^ t:Nat):Int) % ((2 ^ b:Nat):Int)=y / ((2 ^ t:Nat):Int) % ((2 ^ b:Nat):Int):=by
 rw[Z5x hx,Z5x hy]
 rw[←Int.natCast_ediv,←Int.natCast_ediv,←Int.natCast_emod,←Int.natCast_emod]
 congr 1
 apply Nat.eq_of_testBit_eq
 intro i
 rw[Nat.testBit_mod_two_pow,Nat.testBit_mod_two_pow,Nat.testBit_div_two_pow,Nat.testBit_div_two_pow]
 by_cases hi:i<b
 ·rw[h (i+t) (by omega) (by omega)]
 ·simp[hi]
theorem Ze0{x y:Int}(i:Nat):(bw (Za .u32 (Zw .u32 x y))).testBit i=((bw x).testBit i||(bw y).testBit i):=by
 rw[bw,Zdo,Znh,Nat.testBit_or]
def Z4u(x:ArRow)(a b c d:Int):Int:=Za .u32 (Zw .u32 (Za .u32 (Zw .u32 (Za .u32 (Zw .u32 (Za .u32 (Zw .u32 x.w (Vh x.a a))) (Vh x.b b))) (Vh x.c c))) (Vh x.d d))
theorem Zlb(x:ArRow)(a b c d m:Int):Ji x a b c d m=Za .u32 (Zw .u32 (Z4u x a b c d) (Vh x.m m)):=rfl
def Z8d(x:ArRow):Nat:=bw x.w|||Vi x.a|||Vi x.b|||Vi x.c|||Vi x.d
theorem Yul{x:ArRow}(hok:Zdu x=true){a b c d:Int}{i:Nat}(h:(bw (Z4u x a b c d)).testBit i=true):(Z8d x).testBit i=true:=by
 unfold Zdu at hok
 simp only[Bool.and_eq_true] at hok
 obtain⟨o1,o2,o3,o4,o5⟩:=hok
 unfold Z8d
 refine Qx (fun i hi=>Qx (fun i hi=>Qx (fun i hi=>Qx (fun i hi=>?_) (fun i hi=>?_) hi) (fun i hi=>?_) hi) (fun i hi=>?_) hi) (fun i hi=>?_) h
 ·simp only[Nat.testBit_or,hi,Bool.true_or]
 ·simp only[Nat.testBit_or,Kz o1 _ hi,Bool.true_or,Bool.or_true]
 ·simp only[Nat.testBit_or,Kz o2 _ hi,Bool.true_or,Bool.or_true]
 ·simp only[Nat.testBit_or,Kz o3 _ hi,Bool.true_or,Bool.or_true]
 ·simp only[Nat.testBit_or,Kz o4 _ hi,Bool.or_true]
theorem Yeh{x:ArRow}(hok:okF x.m=true){a b c d m n:Int}{i:Nat}(h:(Vi x.m).testBit i=false):(bw (Ji x a b c d m)).testBit i=(bw (Ji x a b c d n)).testBit i:=by
 have g:∀ n,(bw (Vh x.m n)).testBit i=false:=fun n=>by
  cases e:(bw (Vh x.m n)).testBit i with
  |false=>rfl
  |true=>rw[Kz hok n e] at h;cases h
 rw[Zlb,Zlb,Ze0,Ze0,g,g]
theorem Ygx{x:ArRow}(hok:Zdu x=true){a b c d n:Int}{i:Nat}(h:(Z8d x).testBit i=false):(bw (Ji x a b c d n)).testBit i=(bw (Vh x.m n)).testBit i:=by
 rw[Zlb,Ze0]
 cases e:(bw (Z4u x a b c d)).testBit i with
 |false=>rfl
 |true=>rw[Yul hok e] at h;cases h
def Kr(f g:ArNum):Bool:=Zd f.t g.t&&(Zd f.b g.b&&(Zd f.k g.k&&(Zd f.y g.y&&(Zd f.l g.l&&Zd f.h g.h))))
theorem X8{f g:ArNum}(h:Kr f g=true):f=g:=by
 unfold Kr at h
 simp only[Bool.and_eq_true,Ya,decide_eq_true_eq] at h
 cases f;cases g
 simp only[ArNum.mk.injEq]
 exact h
def Zc4(t b:Nat)(m:Nat):Bool:=(List.range b).all fun i=>!(m.testBit (t+i))
theorem Qi{t b m:Nat}(h:Zc4 t b m=true){i:Nat}(h1:t≤i)(h2:i<t+b):m.testBit i=false:=by
 have:=List.all_eq_true.1 h (i - t) (List.mem_range.2 (by omega))
 rw[show t+(i - t)=i by omega] at this
 simpa using this
def Zss(f:ArNum)(m:Nat):Bool:=Kr f fN||((Kr f fR0&&Zc4 0 5 m)||((Kr f fR5&&Zc4 5 5 m)||((Kr f f22&&Zc4 22 1 m)||(Kr f fC4&&Zc4 0 4 m))))
theorem Zi5{f:ArNum}{m:Nat}(h:Zss f m=true){w W:Int}(hw:0≤w∧w<4294967296)(hW:0≤W∧W<4294967296)(ha:∀ i,m.testBit i=false→(bw W).testBit i=(bw w).testBit i):Yi f W=Yi f w:=by
 unfold Zss at h
 simp only[Bool.or_eq_true,Bool.and_eq_true] at h
 rcases h with h|⟨h,h2⟩|⟨h,h2⟩|⟨h,h2⟩|⟨h,h2⟩
 ·rw[X8 h,Yzh,Yzh]
 ·have:=Xd hW hw 0 5 fun i h3 h4=>ha i (Qi h2 h3 h4)
  rw[X8 h,Yne,Yne]
  simpa using this
 ·have:=Xd hW hw 5 5 fun i h3 h4=>ha i (Qi h2 h3 h4)
  rw[X8 h,Yjg,Yjg]
  simpa using this
 ·have:=Xd hW hw 22 1 fun i h3 h4=>ha i (Qi h2 h3 h4)
  rw[X8 h,Ypy,Ypy]
  simpa using this
 ·have:=Xd hW hw 0 4 fun i h3 h4=>ha i (Qi h2 h3 h4)
  rw[X8 h,Ykd,Ykd]
  simpa using this
abbrev fY2:ArNum:=⟨.ofNat 10,.ofNat 12,.ofNat 1,.ofNat 2,.ofNat 0,.ofNat 8190⟩
abbrev fY4:ArNum:=⟨.ofNat 10,.ofNat 12,.ofNat 1,.ofNat 4,.ofNat 0,.ofNat 16380⟩
abbrev fY8:ArNum:=⟨.ofNat 10,.ofNat 12,.ofNat 1,.ofNat 8,.ofNat 0,.ofNat 32760⟩
theorem Yhd{n:Int}{y:Nat}(hy:0<y)(h:Int.tmod n (.ofNat y)=0):Int.tdiv n (.ofNat y)=n / y:=by
 obtain⟨k,rfl⟩:=Int.dvd_of_tmod_eq_zero h
 show Int.tdiv ((y:Int)*k) (y:Int)=_
 rw[Int.mul_tdiv_cancel_left k (by omega)]
 exact(Int.mul_ediv_cancel_left k (show(y:Int)≠0 by omega)).symm
theorem Ymo{n:Int}{y:Nat}(h:Int.tmod n (.ofNat y)=0):n % y=0:=Int.emod_eq_zero_of_dvd (Int.dvd_of_tmod_eq_zero h)
theorem Yq0{y:Nat}{l h n:Int}(hy:y=2∨y=4∨y=8)(hm:Int.tmod n (.ofNat y)=0):Vh ⟨.ofNat 10,.ofNat 12,.ofNat 1,.ofNat y,l,h⟩ n=n / y % 4096*1024:=by
 rcases hy with rfl|rfl|rfl
 ·show Za .u32 (Zf (Za .u32 (Ze .u32 (Za .u32 (Za .i64 (Int.tdiv n (.ofNat 2)))) (.ofNat 4095))) 10)=_
  simp only[Zi4,Yhd (y:=2) (by decide) hm,Z1,Yp,Za9]
  omega
 ·show Za .u32 (Zf (Za .u32 (Ze .u32 (Za .u32 (Za .i64 (Int.tdiv n (.ofNat 4)))) (.ofNat 4095))) 10)=_
  simp only[Zi4,Yhd (y:=4) (by decide) hm,Z1,Yp,Za9]
  omega
 ·show Za .u32 (Zf (Za .u32 (Ze .u32 (Za .u32 (Za .i64 (Int.tdiv n (.ofNat 8)))) (.ofNat 4095))) 10)=_
  simp only[Zi4,Yhd (y:=8) (by decide) hm,Z1,Yp,Za9]
  omega
theorem Y1s(w:Int):Yi fY2 w=w / 1024 % 4096*2:=by
 show Za .i64 (Int.mul (Za .i64 (Za .u32 (Ze .u32 (Zc w 10) (.ofNat 4095)))) (.ofNat 2))=_
 simp only[Zi4,Zrl,Z1,Yp,Kx]
 simp only[J3]
 omega
theorem Y14(w:Int):Yi fY4 w=w / 1024 % 4096*4:=by
 show Za .i64 (Int.mul (Za .i64 (Za .u32 (Ze .u32 (Zc w 10) (.ofNat 4095)))) (.ofNat 4))=_
 simp only[Zi4,Zrl,Z1,Yp,Kx]
 simp only[J3]
 omega
theorem Y3o(w:Int):Yi fY8 w=w / 1024 % 4096*8:=by
 show Za .i64 (Int.mul (Za .i64 (Za .u32 (Ze .u32 (Zc w 10) (.ofNat 4095)))) (.ofNat 8))=_
 simp only[Zi4,Zrl,Z1,Yp,Kx]
 simp only[J3]
 omega
def Y2c(f:ArNum)(m:Nat):Bool:=(Kr f Yh2&&Zc4 10 12 m)||((Kr f fY2&&Zc4 10 12 m)||((Kr f fY4&&Zc4 10 12 m)||((Kr f fY8&&Zc4 10 12 m)||((Kr f fAp&&(Zc4 5 19 m&&Zc4 29 2 m))||((Kr f Yeu&&Zc4 0 26 m)||(Kr f Yco&&Zc4 5 19 m))))))
def Y8t(f:ArNum)(n:Int):Prop:=Z2 n (Za .i64 f.l)=false∧Z2 (Za .i64 f.h) n=false∧Int.tmod n (Za .i64 f.y)=0
theorem get_new{f:ArNum}{m:Nat}(h:Y2c f m=true){W n:Int}(hW:0≤W∧W<4294967296)(hn:Y8t f n)(ha:∀ i,m.testBit i=false→(bw W).testBit i=(bw (Vh f n)).testBit i):Yi f W=n:=by
 obtain⟨n1,n2,n3⟩:=hn
 rw[Y7b,decide_eq_false_iff_not] at n1 n2
 unfold Y2c at h
 simp only[Bool.or_eq_true,Bool.and_eq_true] at h
 rcases h with⟨h,h2⟩|⟨h,h2⟩|⟨h,h2⟩|⟨h,h2⟩|⟨h,h2,h3⟩|⟨h,h2⟩|⟨h,h2⟩
 ·have e:=X8 h
  subst e
  simp only[show Za .i64 Yh2.l=0 from rfl,show Za .i64 Yh2.h=4095 from rfl] at n1 n2
  rw[Ytm] at ha
  have:W / 1024 % 4096=(n % 4096*1024) / 1024 % 4096:=Xd hW (y:=n % 4096*1024) (by omega) 10 12 fun i h3 h4=>ha i (Qi h2 h3 h4)
  rw[Yts]
  omega
 ·have e:=X8 h
  subst e
  simp only[show Za .i64 fY2.l=0 from rfl,show Za .i64 fY2.h=8190 from rfl,show Za .i64 fY2.y=.ofNat 2 from rfl] at n1 n2 n3
  rw[Yq0 (.inl rfl) n3] at ha
  have h5:n % 2=0:=Ymo n3
  have:W / 1024 % 4096=(n / 2 % 4096*1024) / 1024 % 4096:=Xd hW (y:=n / (2:Nat) % 4096*1024) (by omega) 10 12 fun i h3 h4=>ha i (Qi h2 h3 h4)
  rw[Y1s]
  omega
 ·have e:=X8 h
  subst e
  simp only[show Za .i64 fY4.l=0 from rfl,show Za .i64 fY4.h=16380 from rfl,show Za .i64 fY4.y=.ofNat 4 from rfl] at n1 n2 n3
  rw[Yq0 (.inr (.inl rfl)) n3] at ha
  have h5:n % 4=0:=Ymo n3
  have:W / 1024 % 4096=(n / 4 % 4096*1024) / 1024 % 4096:=Xd hW (y:=n / (4:Nat) % 4096*1024) (by omega) 10 12 fun i h3 h4=>ha i (Qi h2 h3 h4)
  rw[Y14]
  omega
 ·have e:=X8 h
  subst e
  simp only[show Za .i64 fY8.l=0 from rfl,show Za .i64 fY8.h=32760 from rfl,show Za .i64 fY8.y=.ofNat 8 from rfl] at n1 n2 n3
  rw[Yq0 (.inr (.inr rfl)) n3] at ha
  have h5:n % 8=0:=Ymo n3
  have:W / 1024 % 4096=(n / 8 % 4096*1024) / 1024 % 4096:=Xd hW (y:=n / (8:Nat) % 4096*1024) (by omega) 10 12 fun i h3 h4=>ha i (Qi h2 h3 h4)
  rw[Y3o]
  omega
 ·have e:=X8 h
  subst e
  simp only[show Za .i64 fAp.l=-1048576 from rfl,show Za .i64 fAp.h=1048575 from rfl] at n1 n2
  rw[Y5c] at ha
  have q1:W / 32 % 524288=(n % 4*536870912+n / 4 % 524288*32) / 32 % 524288:=Xd hW (y:=n % 4*536870912+n / 4 % 524288*32) (by omega) 5 19 fun i h4 h5=>ha i (Qi h2 h4 h5)
  have q2:W / 536870912 % 4=(n % 4*536870912+n / 4 % 524288*32) / 536870912 % 4:=Xd hW (y:=n % 4*536870912+n / 4 % 524288*32) (by omega) 29 2 fun i h4 h5=>ha i (Qi h3 h4 h5)
  rw[Y4s _ hW]
  have e1:(n % 4*536870912+n / 4 % 524288*32) / 32 % 524288=n / 4 % 524288:=by
   have g1:0≤n % 4∧n % 4<4:=by omega
   have g2:0≤n / 4 % 524288∧n / 4 % 524288<524288:=by omega
   generalize n % 4=x1 at *
   generalize n / 4 % 524288=x2 at *
   omega
  have e2:(n % 4*536870912+n / 4 % 524288*32) / 536870912 % 4=n % 4:=by
   have g1:0≤n % 4∧n % 4<4:=by omega
   have g2:0≤n / 4 % 524288∧n / 4 % 524288<524288:=by omega
   generalize n % 4=x1 at *
   generalize n / 4 % 524288=x2 at *
   omega
  rw[q1,q2,e1,e2]
  omega
 ·have e:=X8 h
  subst e
  simp only[show Za .i64 Yeu.l=-134217728 from rfl,show Za .i64 Yeu.h=134217724 from rfl,show Za .i64 Yeu.y=.ofNat 4 from rfl] at n1 n2 n3
  have h5:n % 4=0:=Ymo n3
  rw[Yto h5] at ha
  have:W / 1 % 67108864=(n / 4 % 67108864) / 1 % 67108864:=Xd hW (y:=n / 4 % 67108864) (by omega) 0 26 fun i h3 h4=>ha i (Qi h2 h3 h4)
  rw[Yw6]
  omega
 ·have e:=X8 h
  subst e
  simp only[show Za .i64 Yco.l=-1048576 from rfl,show Za .i64 Yco.h=1048572 from rfl,show Za .i64 Yco.y=.ofNat 4 from rfl] at n1 n2 n3
  have h5:n % 4=0:=Ymo n3
  rw[Yyi h5] at ha
  have:W / 32 % 524288=(n / 4 % 524288*32) / 32 % 524288:=Xd hW (y:=n / 4 % 524288*32) (by omega) 5 19 fun i h3 h4=>ha i (Qi h2 h3 h4)
  rw[Yye]
  omega
def spansOf(x:ArRow):Nat:=Vi x.a|||Vi x.b|||Vi x.c|||Vi x.d|||Vi x.m
def kn(x:ArRow):List (Nat×Bool):=((List.range 32).filter fun i=>!((spansOf x).testBit i)).map fun i=>(i,(bw x.w).testBit i)
theorem Ytd{x:ArRow}(hok:Zdu x=true){a b c d m:Int}:∀ k∈kn x,(bw (Ji x a b c d m)).testBit k.1=k.2:=by
 intro k hk
 unfold kn at hk
 rw[List.mem_map] at hk
 obtain⟨i,hi,rfl⟩:=hk
 rw[List.mem_filter] at hi
 have hs:(spansOf x).testBit i=false:=by simpa using hi.2
 show _=(bw x.w).testBit i
 cases hb:(bw x.w).testBit i with
 |true=>exact Z8y hb
 |false=>
  cases hw:(bw (Ji x a b c d m)).testBit i with
  |false=>rfl
  |true=>
   have h:=Z8c hok hw
   unfold Z7k at h
   unfold spansOf at hs
   simp only[Nat.testBit_or,Bool.or_eq_false_iff] at hs
   simp only[Nat.testBit_or,hb,hs.1.1.1.1,hs.1.1.1.2,hs.1.1.2,hs.1.2,hs.2,Bool.or_self] at h
   cases h
def Znv(x y:ArRow):Bool:=leq x.nm y.nm&&(Zd x.w y.w&&(Kr x.a y.a&&(Kr x.b y.b&&(Kr x.c y.c&&(Kr x.d y.d&&(Kr x.m y.m&&leq x.ops y.ops))))))
theorem Zpm{x y:ArRow}(h:Znv x y=true):x=y:=by
 unfold Znv at h
 simp only[Bool.and_eq_true] at h
 obtain⟨h1,h2,h3,h4,h5,h6,h7,h8⟩:=h
 rw[Q6,decide_eq_true_eq] at h1 h8
 rw[Ya,decide_eq_true_eq] at h2
 cases x;cases y
 simp only[ArRow.mk.injEq]
 exact⟨h1,h2,X8 h3,X8 h4,X8 h5,X8 h6,X8 h7,h8⟩
def Z3e(x:ArRow)(i:Nat):Bool:=match Wm[i]? with
 |some y=>Y13 (kn x) y||(Znv y Zyt&&((kn x).any (fun k=>Nat.beq k.1 26&&k.2)&&(kn x).any (fun k=>Nat.beq k.1 30&&!k.2)))
 |none=>true
def Y9i(j:Nat):Bool:=match Wm[j]? with
 |none=>true
 |some x=>!(arG x.nm)||(Zdu x&&(Ze3 x.m.k x.m.y&&(!(Zd x.m.k (.ofNat 0))&&(!(Zd x.m.k (.ofNat 3))&&(!(Zd (Za .i64 x.m.y) (.ofNat 0))&&(Zss x.a (Vi x.m)&&(Zss x.b (Vi x.m)&&(Zss x.c (Vi x.m)&&(Zss x.d (Vi x.m)&&(Y2c x.m (Z8d x)&&(Znv (Z58 x.nm) x&&(List.range j).all (Z3e x))))))))))))
theorem Ykc:(List.range 54).all Y9i=true:=by kernel_rfl
theorem Ybt{x:ArRow}{nm:List UInt8}{a b c d n:Int}(hok:Ze3 x.m.k x.m.y=true)(k0:Zd x.m.k (.ofNat 0)=false)(k3:Zd x.m.k (.ofNat 3)=false)(y0:Zd (Za .i64 x.m.y) (.ofNat 0)=false)(h:Zj1 x nm a b c d n=.ofNat 0):Y8t x.m n:=by
 have e:=Zhu x.nm x.w x.a.t x.a.b x.a.k x.a.y x.a.l x.a.h x.b.t x.b.b x.b.k x.b.y x.b.l x.b.h x.c.t x.c.b x.c.k x.c.y x.c.l x.c.h x.d.t x.d.b x.d.k x.d.y x.d.l x.d.h x.m.t x.m.b x.m.k x.m.y x.m.l x.m.h x.ops nm a b c d n hok
 change _=some (AV.int .i64 (Zj1 x nm a b c d n)) at e
 rw[h] at e
 unfold Zac at e
 simp only[k0,k3,y0,Yg] at e
 rcases Ve e with⟨_,e⟩|⟨_,e⟩
 ·cases e
 rcases Ve e with⟨_,e⟩|⟨_,e⟩
 ·cases e
 rcases Ve e with⟨_,e⟩|⟨_,e⟩
 ·cases e
 rcases Ve e with⟨_,e⟩|⟨_,e⟩
 ·cases e
 rcases Ve e with⟨_,e⟩|⟨g1,e⟩
 ·cases e
 rcases Ve e with⟨_,e⟩|⟨g2,e⟩
 ·cases e
 rcases Ve e with⟨_,e⟩|⟨g3,e⟩
 ·cases e
 refine⟨g1,g2,?_⟩
 rw[Bool.not_eq_false',Ya,decide_eq_true_eq] at g3
 exact g3
theorem Zom(x:ArRow)(a b c d m:Int):0≤Ji x a b c d m∧Ji x a b c d m<4294967296:=by
 unfold Ji
 rw[Z1]
 omega
theorem Yri{x:ArRow}{W:Int}{i:Nat}{v:Bool}(hk:∀ k∈kn x,(bw W).testBit k.1=k.2)(h:(kn x).any (fun k=>Nat.beq k.1 i&&(k.2==v))=true):(bw W).testBit i=v:=by
 obtain⟨k,hm,hb⟩:=List.any_eq_true.1 h
 rw[Bool.and_eq_true,Nat.beq_eq,beq_iff_eq] at hb
 rw[←hb.1,←hb.2]
 exact hk k hm
theorem Z17{x y:ArRow}{W:Int}{i:Nat}(hk:∀ k∈kn x,(bw W).testBit k.1=k.2)(hy:Wm[i]?=some y)(h:Z3e x i=true):Vx W y=false:=by
 unfold Z3e at h
 rw[hy] at h
 simp only[Bool.or_eq_true,Bool.and_eq_true] at h
 rcases h with h|⟨h,h26,h30⟩
 ·exact miss hk h
 ·rw[Zpm h]
  refine Z96 (Yri hk (v:=true) ?_) (Yri hk (v:=false) ?_)
  ·simpa using h26
  ·simpa using h30
theorem Yx3{w n:Int}(hw:0≤w∧w<4294967296)(h0:Zd (arDE w) (.ofNat 0)=true)(hG:arG (arDN w)=true)(he:Zd (arEE (arDN w) (arDA w) (arDB w) (arDC w) (arDD w) n) (.ofNat 0)=true) :
  ∃ W,arEW (arDN w) (arDA w) (arDB w) (arDC w) (arDD w) n=W∧(0≤W∧W<4294967296)∧arDN W=arDN w∧arDA W=arDA w∧arDB W=arDB w∧arDC W=arDC w∧arDD W=arDD w∧Zd (arDE W) (.ofNat 0)=true:=by
 cases hf:Wm.find? (Vx w) with
 |none=>
  have e:arDE w=.ofNat 22:=by
   unfold arDE arO
   rw[hf];rfl
  rw[e] at h0;cases h0
 |some x=>
  obtain⟨r0,r1,r2,r3,r4,_,_⟩:=Z7z hf
  rw[r0] at hG
  rw[r0,r1,r2,r3,r4] at he ⊢
  obtain⟨j,hj,ej⟩:=List.getElem_of_mem (List.mem_of_find?_eq_some hf)
  have hx:Wm[j]?=some x:=by rw[List.getElem?_eq_getElem hj,ej]
  have hc:=List.all_eq_true.1 Ykc j (List.mem_range.2 (by rw[←Zqe];exact hj))
  unfold Y9i at hc
  rw[hx] at hc
  simp only[hG,Bool.not_true,Bool.false_or,Bool.and_eq_true,Bool.not_eq_true'] at hc
  obtain⟨c1,c2,c3,c4,c5,c6,c7,c8,c9,c10,c11,c12⟩:=hc
  have el:=Zpm c11
  have c1':=c1
  unfold Zdu at c1'
  simp only[Bool.and_eq_true] at c1'
  have hE:Zj1 x x.nm (Yi x.a w) (Yi x.b w) (Yi x.c w) (Yi x.d w) n=.ofNat 0:=by
   unfold arEE at he
   rw[el,Ya,decide_eq_true_eq] at he
   exact he
  have hN:=Ybt c2 c3 c4 c5 hE
  have hit:=List.find?_some hf
  unfold Vx at hit
  rw[Bool.and_eq_true,Ya,Ya,decide_eq_true_eq,decide_eq_true_eq,Zw3 c1] at hit
  have hwe:=hit.2
  refine⟨Ji x (Yi x.a w) (Yi x.b w) (Yi x.c w) (Yi x.d w) n,?_,Zom ..,?_⟩
  ·unfold arEW
   rw[el]
   exact Z60 x c1 x.nm _ _ _ _ _
  have hW:=Zom x (Yi x.a w) (Yi x.b w) (Yi x.c w) (Yi x.d w) n
  have hk:=Ytd c1 (a:=Yi x.a w) (b:=Yi x.b w) (c:=Yi x.c w) (d:=Yi x.d w) (m:=n)
  have ha:∀ i,(Vi x.m).testBit i=false→(bw (Ji x (Yi x.a w) (Yi x.b w) (Yi x.c w) (Yi x.d w) n)).testBit i=(bw w).testBit i:=fun i hi=>by
   have:=Yeh c1'.2.2.2.2 (a:=Yi x.a w) (b:=Yi x.b w) (c:=Yi x.c w) (d:=Yi x.d w) (m:=n) (n:=Yi x.m w) hi
   rw[hwe] at this
   exact this
  have ga:=Zi5 c6 hw hW ha
  have gb:=Zi5 c7 hw hW ha
  have gc:=Zi5 c8 hw hW ha
  have gd:=Zi5 c9 hw hW ha
  have gm:=get_new c10 hW hN fun i hi=>Ygx c1 hi
  have hh:Vx (Ji x (Yi x.a w) (Yi x.b w) (Yi x.c w) (Yi x.d w) n) x=true:=Y4t c1 (by rw[ga,gb,gc,gd,gm];exact hE) (by rw[ga,gb,gc,gd,gm])
  have hF:=Zlo hx hh fun i hi y hy=>Z17 hk hy (List.all_eq_true.1 c12 i (List.mem_range.2 hi))
  obtain⟨s0,s1,s2,s3,s4,_,s6⟩:=Z7z hF
  exact⟨s0,s1.trans ga,s2.trans gb,s3.trans gc,s4.trans gd,by rw[s6];rfl⟩
end
end Go.Proofs.YtaakhjmfojoodaaGreatDoor
namespace Go.Proofs.YtaakhjmfojoodaaGreatDoor
open Go Go.Vai
noncomputable section
set_option maxRecDepth 100000
theorem pw5:((2 ^ 5:Nat):Int)=32:=rfl
theorem pw8:((2 ^ 8:Nat):Int)=256:=rfl
theorem Ywn:((2 ^ 11:Nat):Int)=2048:=rfl
theorem Y9g:((2 ^ 21:Nat):Int)=2097152:=rfl
theorem q25:((2 ^ 25:Nat):Int)=33554432:=rfl
theorem q31:((2 ^ 31:Nat):Int)=2147483648:=rfl
theorem Yzs(n:Int):Jx (.ofNat 5) n=n / 2 % 16*256+n / 32 % 64*33554432+n / 2048 % 2*128+n / 4096 % 2*2147483648:=by
 show Za .u32 (Zw .u32 (Za .u32 (Zw .u32 (Za .u32 (Zw .u32 (Za .u32 (Zf (Za .u32 (Ze .u32 (Za .u32 (Zc n 1)) (.ofNat 15))) 8)) (Za .u32 (Zf (Za .u32 (Ze .u32 (Za .u32 (Zc n 5)) (.ofNat 63))) 25)))) (Za .u32 (Zf (Za .u32 (Ze .u32 (Za .u32 (Zc n 11)) (.ofNat 1))) 7)))) (Za .u32 (Zf (Za .u32 (Ze .u32 (Za .u32 (Zc n 12)) (.ofNat 1))) 31)))=_
 simp only[a15,a63,a1,Z1,Kx,Za9]
 rw[show n / ((2 ^ 1:Nat):Int) % 4294967296 % 16 % 4294967296*((2 ^ 8:Nat):Int) % 4294967296=n / 2 % 16*256 by omega,show n / ((2 ^ 5:Nat):Int) % 4294967296 % 64 % 4294967296*((2 ^ 25:Nat):Int) % 4294967296=n / 32 % 64*33554432 by omega,show n / ((2 ^ 11:Nat):Int) % 4294967296 % 2 % 4294967296*((2 ^ 7:Nat):Int) % 4294967296=n / 2048 % 2*128 by omega,show n / ((2 ^ 12:Nat):Int) % 4294967296 % 2 % 4294967296*((2 ^ 31:Nat):Int) % 4294967296=n / 4096 % 2*2147483648 by omega]
 have h1:0≤n / 2 % 16∧n / 2 % 16<16:=by omega
 have h2:0≤n / 32 % 64∧n / 32 % 64<64:=by omega
 have h3:0≤n / 2048 % 2∧n / 2048 % 2<2:=by omega
 have h4:0≤n / 4096 % 2∧n / 4096 % 2<2:=by omega
 generalize n / 2 % 16=x1 at *
 generalize n / 32 % 64=x2 at *
 generalize n / 2048 % 2=x3 at *
 generalize n / 4096 % 2=x4 at *
 rw[Ze6 (kd:=.u32) (x:=x1*256) (y:=x2*33554432) 12 (by omega) (by rw[p12];omega) (by omega) (by rw[p32];omega) (by rw[p12];omega) (by decide)]
 rw[show(x1*256+x2*33554432) % 4294967296=x1*256+x2*33554432 by omega]
 rw[Y6v (kd:=.u32) (x:=x1*256+x2*33554432) (y:=x3*128) 7 8 (by omega) (by rw[p32];omega) (by rw[p7,pw8];omega) (by omega) (by rw[pw8];omega) (by rw[p7];omega) (by decide)]
 rw[show(x1*256+x2*33554432+x3*128) % 4294967296=x1*256+x2*33554432+x3*128 by omega]
 rw[Ze6 (kd:=.u32) (x:=x1*256+x2*33554432+x3*128) (y:=x4*2147483648) 31 (by omega) (by rw[q31];omega) (by omega) (by rw[p32];omega) (by rw[q31];omega) (by decide)]
 omega
theorem imm_J(n:Int):Jx (.ofNat 7) n=n / 2 % 1024*2097152+n / 2048 % 2*1048576+n / 4096 % 256*4096+n / 1048576 % 2*2147483648:=by
 show Za .u32 (Zw .u32 (Za .u32 (Zw .u32 (Za .u32 (Zw .u32 (Za .u32 (Zf (Za .u32 (Ze .u32 (Za .u32 (Zc n 1)) (.ofNat 1023))) 21)) (Za .u32 (Zf (Za .u32 (Ze .u32 (Za .u32 (Zc n 11)) (.ofNat 1))) 20)))) (Za .u32 (Zf (Za .u32 (Ze .u32 (Za .u32 (Zc n 12)) (.ofNat 255))) 12)))) (Za .u32 (Zf (Za .u32 (Ze .u32 (Za .u32 (Zc n 20)) (.ofNat 1))) 31)))=_
 simp only[Yz6,Y54,a1,Z1,Kx,Za9]
 rw[show n / ((2 ^ 1:Nat):Int) % 4294967296 % 1024 % 4294967296*((2 ^ 21:Nat):Int) % 4294967296=n / 2 % 1024*2097152 by omega,show n / ((2 ^ 11:Nat):Int) % 4294967296 % 2 % 4294967296*((2 ^ 20:Nat):Int) % 4294967296=n / 2048 % 2*1048576 by omega,show n / ((2 ^ 12:Nat):Int) % 4294967296 % 256 % 4294967296*((2 ^ 12:Nat):Int) % 4294967296=n / 4096 % 256*4096 by omega,show n / ((2 ^ 20:Nat):Int) % 4294967296 % 2 % 4294967296*((2 ^ 31:Nat):Int) % 4294967296=n / 1048576 % 2*2147483648 by omega]
 have h1:0≤n / 2 % 1024∧n / 2 % 1024<1024:=by omega
 have h2:0≤n / 2048 % 2∧n / 2048 % 2<2:=by omega
 have h3:0≤n / 4096 % 256∧n / 4096 % 256<256:=by omega
 have h4:0≤n / 1048576 % 2∧n / 1048576 % 2<2:=by omega
 generalize n / 2 % 1024=x1 at *
 generalize n / 2048 % 2=x2 at *
 generalize n / 4096 % 256=x3 at *
 generalize n / 1048576 % 2=x4 at *
 rw[Yh8 (kd:=.u32) (x:=x1*2097152) (y:=x2*1048576) 21 (by omega) (by rw[Y9g];omega) (by omega) (by rw[p32];omega) (by rw[Y9g];omega) (by decide)]
 rw[show(x1*2097152+x2*1048576) % 4294967296=x1*2097152+x2*1048576 by omega]
 rw[Yh8 (kd:=.u32) (x:=x1*2097152+x2*1048576) (y:=x3*4096) 20 (by omega) (by rw[p20];omega) (by omega) (by rw[p32];omega) (by rw[p20];omega) (by decide)]
 rw[show(x1*2097152+x2*1048576+x3*4096) % 4294967296=x1*2097152+x2*1048576+x3*4096 by omega]
 rw[Ze6 (kd:=.u32) (x:=x1*2097152+x2*1048576+x3*4096) (y:=x4*2147483648) 31 (by omega) (by rw[q31];omega) (by omega) (by rw[p32];omega) (by rw[q31];omega) (by decide)]
 omega
theorem Yhk(w:Int)(h:0≤w∧w<4294967296):Qc (.ofNat 5) w=(w / 256 % 16*2+w / 33554432 % 64*32+w / 128 % 2*2048+w / 2147483648 % 2*4096+4096) % 8192 - 4096:=by
 show Za .i64 (Zc (Za .i32 (Za .u32 (Zf (Za .u32 (Zw .u32 (Za .u32 (Zw .u32 (Za .u32 (Zw .u32 (Za .u32 (Zf (Za .u32 (Ze .u32 (Zc w 8) (.ofNat 15))) 1)) (Za .u32 (Zf (Za .u32 (Ze .u32 (Zc w 25) (.ofNat 63))) 5)))) (Za .u32 (Zf (Za .u32 (Ze .u32 (Zc w 7) (.ofNat 1))) 11)))) (Za .u32 (Zf (Za .u32 (Ze .u32 (Zc w 31) (.ofNat 1))) 12)))) 19))) 19)=_
 simp only[a15,a63,a1,Z1,Kk,Yp,Kx,Za9]
 rw[show w / ((2 ^ 8:Nat):Int) % 16 % 4294967296*((2 ^ 1:Nat):Int) % 4294967296=w / 256 % 16*2 by omega,show w / ((2 ^ 25:Nat):Int) % 64 % 4294967296*((2 ^ 5:Nat):Int) % 4294967296=w / 33554432 % 64*32 by omega,show w / ((2 ^ 7:Nat):Int) % 2 % 4294967296*((2 ^ 11:Nat):Int) % 4294967296=w / 128 % 2*2048 by omega,show w / ((2 ^ 31:Nat):Int) % 2 % 4294967296*((2 ^ 12:Nat):Int) % 4294967296=w / 2147483648 % 2*4096 by omega]
 have h1:0≤w / 256 % 16∧w / 256 % 16<16:=by omega
 have h2:0≤w / 33554432 % 64∧w / 33554432 % 64<64:=by omega
 have h3:0≤w / 128 % 2∧w / 128 % 2<2:=by omega
 have h4:0≤w / 2147483648 % 2∧w / 2147483648 % 2<2:=by omega
 generalize w / 256 % 16=x1 at *
 generalize w / 33554432 % 64=x2 at *
 generalize w / 128 % 2=x3 at *
 generalize w / 2147483648 % 2=x4 at *
 rw[Ze6 (kd:=.u32) (x:=x1*2) (y:=x2*32) 5 (by omega) (by rw[pw5];omega) (by omega) (by rw[p32];omega) (by rw[pw5];omega) (by decide)]
 rw[show(x1*2+x2*32) % 4294967296=x1*2+x2*32 by omega]
 rw[Ze6 (kd:=.u32) (x:=x1*2+x2*32) (y:=x3*2048) 11 (by omega) (by rw[Ywn];omega) (by omega) (by rw[p32];omega) (by rw[Ywn];omega) (by decide)]
 rw[show(x1*2+x2*32+x3*2048) % 4294967296=x1*2+x2*32+x3*2048 by omega]
 rw[Ze6 (kd:=.u32) (x:=x1*2+x2*32+x3*2048) (y:=x4*4096) 12 (by omega) (by rw[p12];omega) (by omega) (by rw[p32];omega) (by rw[p12];omega) (by decide)]
 have hx:0≤x1*2+x2*32+x3*2048+x4*4096∧x1*2+x2*32+x3*2048+x4*4096<8192:=by omega
 generalize x1*2+x2*32+x3*2048+x4*4096=x at hx ⊢
 omega
theorem Yfi(w:Int)(h:0≤w∧w<4294967296):Qc (.ofNat 7) w=(w / 2097152 % 1024*2+w / 1048576 % 2*2048+w / 4096 % 256*4096+w / 2147483648 % 2*1048576+1048576) % 2097152 - 1048576:=by
 show Za .i64 (Zc (Za .i32 (Za .u32 (Zf (Za .u32 (Zw .u32 (Za .u32 (Zw .u32 (Za .u32 (Zw .u32 (Za .u32 (Zf (Za .u32 (Ze .u32 (Zc w 21) (.ofNat 1023))) 1)) (Za .u32 (Zf (Za .u32 (Ze .u32 (Zc w 20) (.ofNat 1))) 11)))) (Za .u32 (Zf (Za .u32 (Ze .u32 (Zc w 12) (.ofNat 255))) 12)))) (Za .u32 (Zf (Za .u32 (Ze .u32 (Zc w 31) (.ofNat 1))) 20)))) 11))) 11)=_
 simp only[Yz6,Y54,a1,Z1,Kk,Yp,Kx,Za9]
 rw[show w / ((2 ^ 21:Nat):Int) % 1024 % 4294967296*((2 ^ 1:Nat):Int) % 4294967296=w / 2097152 % 1024*2 by omega,show w / ((2 ^ 20:Nat):Int) % 2 % 4294967296*((2 ^ 11:Nat):Int) % 4294967296=w / 1048576 % 2*2048 by omega,show w / ((2 ^ 12:Nat):Int) % 256 % 4294967296*((2 ^ 12:Nat):Int) % 4294967296=w / 4096 % 256*4096 by omega,show w / ((2 ^ 31:Nat):Int) % 2 % 4294967296*((2 ^ 20:Nat):Int) % 4294967296=w / 2147483648 % 2*1048576 by omega]
 have h1:0≤w / 2097152 % 1024∧w / 2097152 % 1024<1024:=by omega
 have h2:0≤w / 1048576 % 2∧w / 1048576 % 2<2:=by omega
 have h3:0≤w / 4096 % 256∧w / 4096 % 256<256:=by omega
 have h4:0≤w / 2147483648 % 2∧w / 2147483648 % 2<2:=by omega
 generalize w / 2097152 % 1024=x1 at *
 generalize w / 1048576 % 2=x2 at *
 generalize w / 4096 % 256=x3 at *
 generalize w / 2147483648 % 2=x4 at *
 rw[Ze6 (kd:=.u32) (x:=x1*2) (y:=x2*2048) 11 (by omega) (by rw[Ywn];omega) (by omega) (by rw[p32];omega) (by rw[Ywn];omega) (by decide)]
 rw[show(x1*2+x2*2048) % 4294967296=x1*2+x2*2048 by omega]
 rw[Ze6 (kd:=.u32) (x:=x1*2+x2*2048) (y:=x3*4096) 12 (by omega) (by rw[p12];omega) (by omega) (by rw[p32];omega) (by rw[p12];omega) (by decide)]
 rw[show(x1*2+x2*2048+x3*4096) % 4294967296=x1*2+x2*2048+x3*4096 by omega]
 rw[Ze6 (kd:=.u32) (x:=x1*2+x2*2048+x3*4096) (y:=x4*1048576) 20 (by omega) (by rw[p20];omega) (by omega) (by rw[p32];omega) (by rw[p20];omega) (by decide)]
 have hx:0≤x1*2+x2*2048+x3*4096+x4*1048576∧x1*2+x2*2048+x3*4096+x4*1048576<2097152:=by omega
 generalize x1*2+x2*2048+x3*4096+x4*1048576=x at hx ⊢
 omega
theorem Y41{rn nm:List UInt8}{d n:Int}:Xp rn (.ofNat 5) (.ofNat 99) nm (.ofNat 0) (.ofNat 0) (.ofNat 0) d n=99+(n / 2 % 16*256+n / 32 % 64*33554432+n / 2048 % 2*128+n / 4096 % 2*2147483648):=by
 rw[Zti,Yg2 (by decide) (by decide) (by decide),Yzs n,Z1,J3,J3]
 rw[Ze6 (kd:=.u32) 7 (by omega) (by rw[p7];omega) (by omega) (by rw[p32];omega) (by rw[p7];omega) (by decide)]
 omega
theorem Zqa(rn:List UInt8)(rw w:Int)(h:0≤w∧w<4294967296):Zdj rn (.ofNat 5) rw w=rn∧K5 rn (.ofNat 5) rw w=.ofNat 0∧K4 rn (.ofNat 5) rw w=w / 32768 % 32∧K2 rn (.ofNat 5) rw w=w / 1048576 % 32∧Zaj rn (.ofNat 5) rw w=.ofNat 0∧Zeh rn (.ofNat 5) rw w=(w / 256 % 16*2+w / 33554432 % 64*32+w / 128 % 2*2048+w / 2147483648 % 2*4096+4096) % 8192 - 4096:=by
 have e:=Jr rn (.ofNat 5) rw w
 unfold V2 at e
 simp only[W9,Zas,J7,show Zr8 (.ofNat 5)=false by kernel_rfl,show Zp1 (.ofNat 5)=true by kernel_rfl,show Zmc (.ofNat 5)=true by kernel_rfl,Ym,Yg,Option.some.injEq,AV.agg.injEq,List.cons.injEq,AV.str.injEq,AV.int.injEq,true_and,and_true] at e
 obtain⟨e1,e2,e3,e4,e5,e6⟩:=e
 rw[←e1,←e2,←e3,←e4,←e5,←e6,Yhk w h]
 simp only[a31,Z1,Yp,Kx,p15,p20]
 refine⟨trivial,trivial,by omega,by omega,trivial,trivial⟩
theorem Zvx(rn:List UInt8)(rw w:Int)(h:0≤w∧w<4294967296):Zdj rn (.ofNat 7) rw w=rn∧K5 rn (.ofNat 7) rw w=w / 128 % 32∧K4 rn (.ofNat 7) rw w=.ofNat 0∧K2 rn (.ofNat 7) rw w=.ofNat 0∧Zaj rn (.ofNat 7) rw w=.ofNat 0∧Zeh rn (.ofNat 7) rw w=(w / 2097152 % 1024*2+w / 1048576 % 2*2048+w / 4096 % 256*4096+w / 2147483648 % 2*1048576+1048576) % 2097152 - 1048576:=by
 have e:=Jr rn (.ofNat 7) rw w
 unfold V2 at e
 simp only[W9,Zas,J7,show Zr8 (.ofNat 7)=true by kernel_rfl,show Zp1 (.ofNat 7)=false by kernel_rfl,show Zmc (.ofNat 7)=false by kernel_rfl,Ym,Yg,Option.some.injEq,AV.agg.injEq,List.cons.injEq,AV.str.injEq,AV.int.injEq,true_and,and_true] at e
 obtain⟨e1,e2,e3,e4,e5,e6⟩:=e
 rw[←e1,←e2,←e3,←e4,←e5,←e6,Yfi w h]
 simp only[a31,Z1,Yp,Kx,p7]
 refine⟨trivial,by omega,trivial,trivial,trivial,trivial⟩
def Z1h:List UInt8:=[98,101,113]
theorem Yt5:Xb.find? (Yyh 99)=some (Z1h,.ofNat 5,.ofNat 99):=by kernel_rfl
theorem Zxg{n:Int}(hn:-4096≤n∧n≤4095)(h2:n % 2=0):∃ W,(∀ d,Xp Z1h (.ofNat 5) (.ofNat 99) Z1h (.ofNat 0) (.ofNat 0) (.ofNat 0) d n=W)∧(0≤W∧W<4294967296)∧W % 4=3∧rvDN W=Z1h∧rvDA W=.ofNat 0∧rvDB W=.ofNat 0∧rvDC W=.ofNat 0∧rvDD W=.ofNat 0∧rvDI W=n∧rvDE W=.ofNat 0:=by
 have e:∀ d,Xp Z1h (.ofNat 5) (.ofNat 99) Z1h (.ofNat 0) (.ofNat 0) (.ofNat 0) d n=99+(n / 2 % 16*256+n / 32 % 64*33554432+n / 2048 % 2*128+n / 4096 % 2*2147483648):=fun d=>Y41
 have hv:(n / 2 % 16*2+n / 32 % 64*32+n / 2048 % 2*2048+n / 4096 % 2*4096+4096) % 8192 - 4096=n:=by omega
 have h1:0≤n / 2 % 16∧n / 2 % 16<16:=by omega
 have h3:0≤n / 32 % 64∧n / 32 % 64<64:=by omega
 have h4:0≤n / 2048 % 2∧n / 2048 % 2<2:=by omega
 have h5:0≤n / 4096 % 2∧n / 4096 % 2<2:=by omega
 generalize n / 2 % 16=x1 at *
 generalize n / 32 % 64=x2 at *
 generalize n / 2048 % 2=x3 at *
 generalize n / 4096 % 2=x4 at *
 refine⟨_,e,?_⟩
 generalize hW:99+(x1*256+x2*33554432+x3*128+x4*2147483648)=W at *
 have hw:0≤W∧W<4294967296:=by omega
 have k1:W / 256 % 16=x1:=by omega
 have k2:W / 33554432 % 64=x2:=by omega
 have k3:W / 128 % 2=x3:=by omega
 have k4:W / 2147483648 % 2=x4:=by omega
 have k5:W / 32768 % 32=.ofNat 0:=by rw[J3];omega
 have k6:W / 1048576 % 32=.ofNat 0:=by rw[J3];omega
 obtain⟨r0,r1,r2,r3,r4,r5⟩:=Zqa Z1h (.ofNat 99) _ hw
 rw[k5] at r2
 rw[k6] at r3
 rw[k1,k2,k3,k4,hv] at r5
 have:=Y33 (w:=W) (op:=99) (by omega) Yt5 (by
  show Xp Z1h (.ofNat 5) (.ofNat 99) _ _ _ _ _ _=_
  rw[r0,r1,r2,r3,r5]
  exact e _)
 refine⟨hw,by omega,?_⟩
 simp only[r0,r1,r2,r3,r4,r5] at this
 exact this
theorem Ygo{n:Int}:Int.tmod n 2=0↔n % 2=0:=⟨fun h=>Int.emod_eq_zero_of_dvd (Int.dvd_of_tmod_eq_zero h),fun h=>Int.tmod_eq_zero_of_dvd (Int.dvd_of_emod_eq_zero h)⟩
end
end Go.Proofs.YtaakhjmfojoodaaGreatDoor
