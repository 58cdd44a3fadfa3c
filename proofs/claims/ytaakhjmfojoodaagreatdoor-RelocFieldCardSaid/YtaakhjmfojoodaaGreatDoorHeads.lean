/- riscv.Decode and arm.Decode where four bytes are known. -/
import Derived.Test.YtaakhjmfojoodaaGreatDoorArmDec
namespace Go.Proofs.YtaakhjmfojoodaaGreatDoor
open Go Go.Vai
noncomputable section
set_option maxRecDepth 100000
theorem Yij(k:IntKind):sameKind k k=true:=by simp[sameKind]
theorem Zpv{l a:Nat}(h:a≤l)(hl:l<4611686018427387904):Za .i64 (Int.sub (.ofNat l) (.ofNat a))=.ofNat (l - a):=by
 have:Int.sub (.ofNat l) (.ofNat a)=.ofNat (l - a):=by
  show(Int.ofNat l) - (Int.ofNat a)=Int.ofNat (l - a)
  simp only[Int.ofNat_eq_natCast]
  omega
 rw[this]
 exact Zb8 (by show l - a<9223372036854775808;omega)
theorem Zco{a k:Nat}(h:a+k<4611686018427387904):Za .i64 (Int.add (.ofNat a) (.ofNat k))=.ofNat (a+k):=Zb8 (n:=a+k) (by show a+k<9223372036854775808;omega)
theorem Yyl{o l n a:Nat}{T:Tr AV}{b0 b1 b2 b3:Int}(h:a+4≤l)(hl:l<4611686018427387904)(h0:T.get (o+a)=some (.int .u8 b0))(h1:T.get (o+(a+1))=some (.int .u8 b1))(h2:T.get (o+(a+2))=some (.int .u8 b2))(h3:T.get (o+(a+3))=some (.int .u8 b3)) :
  Y0s o l n (.ofNat a) T=lf .normal 80 ([.ptr 12 0,.int .i64 (.ofNat 0),.int .i64 (.ofNat 0),.int .u32 (Zaa b0 b1 b2 b3)].map some) ([K1 Zbq].map some):=by
 have e0:Tr.get T (Nat.add o (Nat.mul (Int.toNat (.ofNat a)) 1))=some (.int .u8 b0):=by rw[←h0];show T.get (o+a*1)=_;rw[Nat.mul_one]
 have e1:Tr.get T (Nat.add o (Nat.mul (Int.toNat (.ofNat (a+1))) 1))=some (.int .u8 b1):=by rw[←h1];show T.get (o+(a+1)*1)=_;rw[Nat.mul_one]
 have e2:Tr.get T (Nat.add o (Nat.mul (Int.toNat (.ofNat (a+2))) 1))=some (.int .u8 b2):=by rw[←h2];show T.get (o+(a+2)*1)=_;rw[Nat.mul_one]
 have e3:Tr.get T (Nat.add o (Nat.mul (Int.toNat (.ofNat (a+3))) 1))=some (.int .u8 b3):=by rw[←h3];show T.get (o+(a+3)*1)=_;rw[Nat.mul_one]
 have f2:Z2 (.ofNat l) (.ofNat a)=false:=by rw[Y2,decide_eq_false_iff_not];exact Int.not_lt.2 (Int.ofNat_le.2 (by omega))
 have f3:Z2 (Za .i64 (Int.sub (.ofNat l) (.ofNat a))) (.ofNat 4)=false:=by
  rw[Zpv (by omega) hl,Y2,decide_eq_false_iff_not];exact Int.not_lt.2 (Int.ofNat_le.2 (by omega))
 have g:∀ k,a+k<l→Nat.blt (Int.toNat (.ofNat (a+k))) l=true:=fun k hk=>by rw[Nat.blt_eq];exact hk
 have z:∀ k:Nat,Z2 (.ofNat k) (.ofNat 0)=false:=fun _=>rfl
 unfold Y0s
 simp only[z,f2,f3,Zco (k:=1) (show a+1<4611686018427387904 by omega),Zco (k:=2) (show a+2<4611686018427387904 by omega),Zco (k:=3) (show a+3<4611686018427387904 by omega),e0,e1,e2,e3,g 0 (by omega),g 1 (by omega),g 2 (by omega),g 3 (by omega),show Nat.blt (Int.toNat (.ofNat a)) l=true from g 0 (by omega),Vs,Zl,Yij,Ym,Yg]
 rfl
section
variable {P:Program} {I:List MEnt→AHeap→World→Prop} {ro:Option Nat}
theorem Yyt(hE:EnvOk EV P I)(hI:Carried I){o l c n a:Nat}{T:Tr AV}{b0 b1 b2 b3:Int}(h:a+4≤l)(hl:l<4611686018427387904)(h0:T.get (o+a)=some (.int .u8 b0))(h1:T.get (o+(a+1))=some (.int .u8 b1))(h2:T.get (o+(a+2))=some (.int .u8 b2))(h3:T.get (o+(a+3))=some (.int .u8 b3)) :
  Tri EV P I ro fnD.body (Qa fnD [.sl 12 o l (some c),.int .i64 (.ofNat a)]) (Xm 12 [.cells n T 0 none 0 true false]) (Y8g (Zt9 (Zaa b0 b1 b2 b3) (Xb.find? (Qd (Zaa b0 b1 b2 b3))))):=by
 refine Jb _ ?_
 rw[Y80,List.append_assoc]
 exact Xy.leafXC hE hI (Vd EV 3) (vs:=[.ptr 12 0,.int .i64 (.ofNat 0),.int .i64 (.ofNat 0),.int .u32 (Zaa b0 b1 b2 b3)]) (os:=[K1 Zbq]) (os2:=[K1 Zbq]) ((Y9o o l c n (.ofNat a) T).trans (Yyl h hl h0 h1 h2 h3)) (by decide) rfl rfl (Yy8 Zak) (.inl ⟨rfl,Yry hE hI _⟩)
end
theorem Yu2{o l n a:Nat}{T:Tr AV}{b0 b1 b2 b3:Int}(h:a+4≤l)(hl:l<4611686018427387904)(h0:T.get (o+a)=some (.int .u8 b0))(h1:T.get (o+(a+1))=some (.int .u8 b1))(h2:T.get (o+(a+2))=some (.int .u8 b2))(h3:T.get (o+(a+3))=some (.int .u8 b3)) :
  Y0k o l n (.ofNat a) T=lf .normal 100 ([.ptr 12 0,.int .i64 (.ofNat 0),.int .i64 (.ofNat 0),.int .u32 (Zaa b0 b1 b2 b3)].map some) ([V8 arZ].map some):=by
 have e0:Tr.get T (Nat.add o (Nat.mul (Int.toNat (.ofNat a)) 1))=some (.int .u8 b0):=by rw[←h0];show T.get (o+a*1)=_;rw[Nat.mul_one]
 have e1:Tr.get T (Nat.add o (Nat.mul (Int.toNat (.ofNat (a+1))) 1))=some (.int .u8 b1):=by rw[←h1];show T.get (o+(a+1)*1)=_;rw[Nat.mul_one]
 have e2:Tr.get T (Nat.add o (Nat.mul (Int.toNat (.ofNat (a+2))) 1))=some (.int .u8 b2):=by rw[←h2];show T.get (o+(a+2)*1)=_;rw[Nat.mul_one]
 have e3:Tr.get T (Nat.add o (Nat.mul (Int.toNat (.ofNat (a+3))) 1))=some (.int .u8 b3):=by rw[←h3];show T.get (o+(a+3)*1)=_;rw[Nat.mul_one]
 have f2:Z2 (.ofNat l) (.ofNat a)=false:=by rw[Y2,decide_eq_false_iff_not];exact Int.not_lt.2 (Int.ofNat_le.2 (by omega))
 have f3:Z2 (Za .i64 (Int.sub (.ofNat l) (.ofNat a))) (.ofNat 4)=false:=by
  rw[Zpv (by omega) hl,Y2,decide_eq_false_iff_not];exact Int.not_lt.2 (Int.ofNat_le.2 (by omega))
 have g:∀ k,a+k<l→Nat.blt (Int.toNat (.ofNat (a+k))) l=true:=fun k hk=>by rw[Nat.blt_eq];exact hk
 have z:∀ k:Nat,Z2 (.ofNat k) (.ofNat 0)=false:=fun _=>rfl
 unfold Y0k
 simp only[z,f2,f3,Zco (k:=1) (show a+1<4611686018427387904 by omega),Zco (k:=2) (show a+2<4611686018427387904 by omega),Zco (k:=3) (show a+3<4611686018427387904 by omega),e0,e1,e2,e3,g 0 (by omega),g 1 (by omega),g 2 (by omega),g 3 (by omega),show Nat.blt (Int.toNat (.ofNat a)) l=true from g 0 (by omega),Vs,Zl,Yij,Ym,Yg]
 rfl
section
variable {P:Program} {I:List MEnt→AHeap→World→Prop} {ro:Option Nat}
theorem Yux(hE:EnvOk EA P I)(hI:Carried I){o l c n a:Nat}{T:Tr AV}{b0 b1 b2 b3:Int}(h:a+4≤l)(hl:l<4611686018427387904)(h0:T.get (o+a)=some (.int .u8 b0))(h1:T.get (o+(a+1))=some (.int .u8 b1))(h2:T.get (o+(a+2))=some (.int .u8 b2))(h3:T.get (o+(a+3))=some (.int .u8 b3)) :
  Tri EA P I ro fnA.body (Qa fnA [.sl 12 o l (some c),.int .i64 (.ofNat a)]) (Xm 12 [.cells n T 0 none 0 true false]) (EndA (Z0p (Zaa b0 b1 b2 b3) (Wm.find? (Vx (Zaa b0 b1 b2 b3))))):=by
 refine Jb _ ?_
 rw[flatA,List.append_assoc]
 exact Xy.leafXC hE hI Zmb (vs:=[.ptr 12 0,.int .i64 (.ofNat 0),.int .i64 (.ofNat 0),.int .u32 (Zaa b0 b1 b2 b3)]) (os:=[V8 arZ]) (os2:=[V8 arZ]) ((Y63 o l c n (.ofNat a) T).trans (Yu2 h hl h0 h1 h2 h3)) (by decide) rfl rfl (Z7b Jv) (.inl ⟨rfl,Yl5 hE hI _⟩)
end
def rvO(w:Int):AV:=Zt9 w (Xb.find? (Qd w))
def rvDN(w:Int):List UInt8:=Ygg (at_ [0,0] (rvO w))
def rvDA(w:Int):Int:=Va (at_ [0,1] (rvO w))
def rvDB(w:Int):Int:=Va (at_ [0,2] (rvO w))
def rvDC(w:Int):Int:=Va (at_ [0,3] (rvO w))
def rvDD(w:Int):Int:=Va (at_ [0,4] (rvO w))
def rvDI(w:Int):Int:=Va (at_ [0,5] (rvO w))
def rvDS(w:Int):Int:=Va (at_ [1] (rvO w))
def rvDE(w:Int):Int:=Va (at_ [2] (rvO w))
def rvU(w:Int):AV:=.tup [.agg [.str (rvDN w),.int .i64 (rvDA w),.int .i64 (rvDB w),.int .i64 (rvDC w),.int .i64 (rvDD w),.int .i64 (rvDI w)],.int .i64 (rvDS w),.int .i64 (rvDE w)]
theorem Y3q(w:Int):Zt9 w (Xb.find? (Qd w))=rvU w:=by
 unfold rvU rvDN rvDA rvDB rvDC rvDD rvDI rvDS rvDE rvO
 cases Xb.find? (Qd w) <;> rfl
theorem Zsz:Zr Tryz.prog gl (Ze5 71 rvU):=Z65 (E:=EV) Y0d Y2t (fun _ _ _=>rfl) fun w hw o l c n a T b0 b1 b2 b3 h hl h0 h1 h2 h3=>by
 have t:=Yyt (ro:=none) (Y0d w hw) (Zz hw) (c:=c) (n:=n) h hl h0 h1 h2 h3
 rw[Y3q] at t
 exact t
def arO(w:Int):AV:=Z0p w (Wm.find? (Vx w))
def arDN(w:Int):List UInt8:=Ygg (at_ [0,0] (arO w))
def arDA(w:Int):Int:=Va (at_ [0,1] (arO w))
def arDB(w:Int):Int:=Va (at_ [0,2] (arO w))
def arDC(w:Int):Int:=Va (at_ [0,3] (arO w))
def arDD(w:Int):Int:=Va (at_ [0,4] (arO w))
def arDI(w:Int):Int:=Va (at_ [0,5] (arO w))
def arDS(w:Int):Int:=Va (at_ [1] (arO w))
def arDE(w:Int):Int:=Va (at_ [2] (arO w))
def arU(w:Int):AV:=.tup [.agg [.str (arDN w),.int .i64 (arDA w),.int .i64 (arDB w),.int .i64 (arDC w),.int .i64 (arDD w),.int .i64 (arDI w)],.int .i64 (arDS w),.int .i64 (arDE w)]
theorem Y44(w:Int):Z0p w (Wm.find? (Vx w))=arU w:=by
 unfold arU arDN arDA arDB arDC arDD arDI arDS arDE arO
 cases Wm.find? (Vx w) <;> rfl
theorem Zks:Zr Tryz.prog gl (Ze5 40 arU):=Z65 (E:=EA) Y0b Y3c (fun _ _ _=>rfl) fun w hw o l c n a T b0 b1 b2 b3 h hl h0 h1 h2 h3=>by
 have t:=Yux (ro:=none) (Y0b w hw) (Zz hw) (c:=c) (n:=n) h hl h0 h1 h2 h3
 rw[Y44] at t
 exact t
end
end Go.Proofs.YtaakhjmfojoodaaGreatDoor
namespace Go.Proofs.YtaakhjmfojoodaaGreatDoor
open Go Go.Vai
noncomputable section
set_option maxRecDepth 100000
theorem Zti(rn:List UInt8)(fm rw:Int)(nm:List UInt8)(a b c d im:Int):Xp rn fm rw nm a b c d im=Za .u32 (Zw .u32 (Za .u32 (Zw .u32 (Za .u32 (Zw .u32 (Za .u32 (Zw .u32 rw (Za .u32 (Zf (Za .u32 a) 7)))) (Za .u32 (Zf (Za .u32 b) 15)))) (Za .u32 (Zf (Za .u32 c) 20)))) (Jx fm im)):=by
 have h:=Zmx rn fm rw nm a b c d im
 unfold Zej at h
 simp only[W9,Ym,Option.some.injEq,AV.int.injEq,true_and] at h
 exact h.symm
theorem a1(x:Int):Ze .u32 x (.ofNat 1)=x % 2:=Zma 1 rfl (by decide)
theorem a3(x:Int):Ze .u32 x (.ofNat 3)=x % 4:=Zma 2 rfl (by decide)
theorem a15(x:Int):Ze .u32 x (.ofNat 15)=x % 16:=Zma 4 rfl (by decide)
theorem a31(x:Int):Ze .u32 x (.ofNat 31)=x % 32:=Zma 5 rfl (by decide)
theorem a63(x:Int):Ze .u32 x (.ofNat 63)=x % 64:=Zma 6 rfl (by decide)
theorem Yta(x:Int):Ze .u32 x (.ofNat 127)=x % 128:=Zma 7 rfl (by decide)
theorem Y54(x:Int):Ze .u32 x (.ofNat 255)=x % 256:=Zma 8 rfl (by decide)
theorem Yz6(x:Int):Ze .u32 x (.ofNat 1023)=x % 1024:=Zma 10 rfl (by decide)
theorem Zi4(x:Int):Ze .u32 x (.ofNat 4095)=x % 4096:=Zma 12 rfl (by decide)
theorem a20(x:Int):Ze .u32 x (.ofNat 1048575)=x % 1048576:=Zma 20 rfl (by decide)
theorem imm_I(n:Int):Jx (.ofNat 1) n=n % 4096*1048576:=by
 show Za .u32 (Zf (Za .u32 (Ze .u32 (Za .u32 (Zc n 0)) (.ofNat 4095))) 20)=_
 simp only[Zi4,Z1,Kx,Za9]
 omega
theorem Y52(n:Int):Jx (.ofNat 6) n=n % 1048576*4096:=by
 show Za .u32 (Zf (Za .u32 (Ze .u32 (Za .u32 (Zc n 0)) (.ofNat 1048575))) 12)=_
 simp only[a20,Z1,Kx,Za9]
 omega
theorem Yi0(w:Int)(h:0≤w∧w<4294967296):Qc (.ofNat 1) w=(w / 1048576+2048) % 4096 - 2048:=by
 show Za .i64 (Zc (Za .i32 (Za .u32 (Zf (Zc w 20) 20))) 20)=_
 simp only[Z1,Kk,Yp,Kx,Za9]
 omega
theorem Yn8(w:Int)(h:0≤w∧w<4294967296):Qc (.ofNat 6) w=(w / 4096+524288) % 1048576 - 524288:=by
 show Za .i64 (Zc (Za .i32 (Za .u32 (Zf (Zc w 12) 12))) 12)=_
 simp only[Z1,Kk,Yp,Kx,Za9]
 omega
theorem p7:((2 ^ 7:Nat):Int)=128:=rfl
theorem p12:((2 ^ 12:Nat):Int)=4096:=rfl
theorem p15:((2 ^ 15:Nat):Int)=32768:=rfl
theorem p20:((2 ^ 20:Nat):Int)=1048576:=rfl
theorem p32:((2 ^ IntKind.u32.bits:Nat):Int)=4294967296:=rfl
theorem Yg2{rw a b:Int}(hrw:0≤rw∧rw<128)(ha:0≤a∧a<32)(hb:0≤b∧b<32):Za .u32 (Zw .u32 (Za .u32 (Zw .u32 (Za .u32 (Zw .u32 rw (Za .u32 (Zf (Za .u32 a) 7)))) (Za .u32 (Zf (Za .u32 b) 15)))) (Za .u32 (Zf (Za .u32 (.ofNat 0)) 20)))=rw+a*128+b*32768:=by
 simp only[Z1,Za9,p7,p15,p20,J3]
 rw[show a % 4294967296*128 % 4294967296=a*128 by omega,show b % 4294967296*32768 % 4294967296=b*32768 by omega,show((0:Nat):Int) % 4294967296*1048576 % 4294967296=.ofNat 0 by rfl]
 rw[Ze6 (kd:=.u32) (x:=rw) (y:=a*128) 7 (by omega) (by rw[p7];omega) (by omega) (by rw[p32];omega) (by rw[p7];omega) (by decide)]
 rw[show(rw+a*128) % 4294967296=rw+a*128 by omega]
 rw[Ze6 (kd:=.u32) (x:=rw+a*128) (y:=b*32768) 15 (by omega) (by rw[p15];omega) (by omega) (by rw[p32];omega) (by rw[p15];omega) (by decide)]
 rw[show(rw+a*128+b*32768) % 4294967296=rw+a*128+b*32768 by omega]
 rw[or0 (by omega) (by rw[p32];omega)]
 omega
theorem Zvh(rn:List UInt8)(rw w:Int)(h:0≤w∧w<4294967296):Zdj rn (.ofNat 1) rw w=rn∧K5 rn (.ofNat 1) rw w=w / 128 % 32∧K4 rn (.ofNat 1) rw w=w / 32768 % 32∧K2 rn (.ofNat 1) rw w=.ofNat 0∧Zaj rn (.ofNat 1) rw w=.ofNat 0∧Zeh rn (.ofNat 1) rw w=(w / 1048576+2048) % 4096 - 2048:=by
 have e:=Jr rn (.ofNat 1) rw w
 unfold V2 at e
 simp only[W9,Zas,J7,show Zr8 (.ofNat 1)=true by kernel_rfl,show Zp1 (.ofNat 1)=true by kernel_rfl,show Zmc (.ofNat 1)=false by kernel_rfl,Ym,Yg,Option.some.injEq,AV.agg.injEq,List.cons.injEq,AV.str.injEq,AV.int.injEq,true_and,and_true] at e
 obtain⟨e1,e2,e3,e4,e5,e6⟩:=e
 rw[←e1,←e2,←e3,←e4,←e5,←e6,Yi0 w h]
 simp only[a31,Z1,Yp,Kx,p7,p15]
 refine⟨trivial,by omega,by omega,trivial,trivial,trivial⟩
theorem Zwf(rn:List UInt8)(rw w:Int)(h:0≤w∧w<4294967296):Zdj rn (.ofNat 6) rw w=rn∧K5 rn (.ofNat 6) rw w=w / 128 % 32∧K4 rn (.ofNat 6) rw w=.ofNat 0∧K2 rn (.ofNat 6) rw w=.ofNat 0∧Zaj rn (.ofNat 6) rw w=.ofNat 0∧Zeh rn (.ofNat 6) rw w=(w / 4096+524288) % 1048576 - 524288:=by
 have e:=Jr rn (.ofNat 6) rw w
 unfold V2 at e
 simp only[W9,Zas,J7,show Zr8 (.ofNat 6)=true by kernel_rfl,show Zp1 (.ofNat 6)=false by kernel_rfl,show Zmc (.ofNat 6)=false by kernel_rfl,Ym,Yg,Option.some.injEq,AV.agg.injEq,List.cons.injEq,AV.str.injEq,AV.int.injEq,true_and,and_true] at e
 obtain⟨e1,e2,e3,e4,e5,e6⟩:=e
 rw[←e1,←e2,←e3,←e4,←e5,←e6,Yn8 w h]
 simp only[a31,Z1,Yp,Kx,p7]
 refine⟨trivial,by omega,trivial,trivial,trivial,trivial⟩
def Yyh(op:Nat)(x:Zc6):Bool:=Zd (Za .u32 (Ze .u32 x.2.2 (.ofNat 127))) (.ofNat op)
theorem Z1o{α:Type}{q r:α→Bool}{x:α}:∀{l:List α},l.find? q=some x→r x=true→l.find? (fun y=>q y&&r y)=some x
 |[],h,_=>by cases h
 |y::l,h,hr=>by
  simp only[List.find?] at h ⊢
  cases hq:q y with
  |true=>
   rw[hq] at h
   simp only[Option.some.injEq] at h
   subst h
   rw[hr];rfl
  |false=>
   rw[hq] at h
   rw[Bool.false_and]
   exact Z1o h hr
theorem Y25{w:Int}{op:Nat}(h:w % 128=op):Qd w=fun y=>Yyh op y&&Zd (Xp y.1 y.2.1 y.2.2 (Zdj y.1 y.2.1 y.2.2 w) (K5 y.1 y.2.1 y.2.2 w) (K4 y.1 y.2.1 y.2.2 w) (K2 y.1 y.2.1 y.2.2 w) (Zaj y.1 y.2.1 y.2.2 w) (Zeh y.1 y.2.1 y.2.2 w)) w:=by
 funext y
 have e:Za .u32 (Ze .u32 w (.ofNat 127))=.ofNat op:=by rw[Yta,Z1,h,J3];omega
 unfold Qd Yyh
 rw[e]
theorem Y33{w:Int}{op:Nat}{x:Zc6}(h:w % 128=op)(hf:Xb.find? (Yyh op)=some x)(hw:Xp x.1 x.2.1 x.2.2 (Zdj x.1 x.2.1 x.2.2 w) (K5 x.1 x.2.1 x.2.2 w) (K4 x.1 x.2.1 x.2.2 w) (K2 x.1 x.2.1 x.2.2 w) (Zaj x.1 x.2.1 x.2.2 w) (Zeh x.1 x.2.1 x.2.2 w)=w) :
  rvDN w=Zdj x.1 x.2.1 x.2.2 w∧rvDA w=K5 x.1 x.2.1 x.2.2 w∧rvDB w=K4 x.1 x.2.1 x.2.2 w∧rvDC w=K2 x.1 x.2.1 x.2.2 w∧rvDD w=Zaj x.1 x.2.1 x.2.2 w∧rvDI w=Zeh x.1 x.2.1 x.2.2 w∧rvDE w=.ofNat 0:=by
 have e:rvO w=Zt9 w (some x):=by
  unfold rvO
  rw[Y25 h,Z1o hf (by simp only[hw];rw[Yvs];simp)]
 unfold rvDN rvDA rvDB rvDC rvDD rvDI rvDE
 rw[e]
 exact⟨rfl,rfl,rfl,rfl,rfl,rfl,rfl⟩
end
end Go.Proofs.YtaakhjmfojoodaaGreatDoor
namespace Go.Proofs.YtaakhjmfojoodaaGreatDoor
open Go Go.Vai
noncomputable section
set_option maxRecDepth 100000
abbrev bw(x:Int):Nat:=bitsOf .u32 x
def Vh(f:ArNum)(n:Int):Int:=Yn f.t f.b f.k f.y f.l f.h n
def Yi(f:ArNum)(w:Int):Int:=Yf f.t f.b f.k f.y f.l f.h w
def okF(f:ArNum):Bool:=Yl f.t f.b f.k f.y
def Vi(f:ArNum):Nat:=
 bif Zd f.k (.ofNat 1) then((bw (Za .u32 (Int.sub (Za .u32 (Zf (.ofNat 1) (Nat.min (Int.toNat f.b) 32))) (.ofNat 1))))<<<(Nat.min (Int.toNat f.t) 32)) % 2 ^ 32
 else bif Zd f.k (.ofNat 2) then 1627389920 else bif Zd f.k (.ofNat 3) then 4294966272 else 0
theorem Ve{α:Type}{b:Bool}{x y:Option α}{r:α}(h:bc b x y=some r):(b=true∧x=some r)∨(b=false∧y=some r):=Y0 h
theorem Ywz{n m t i:Nat}(h:∀ j,n.testBit j=true→m.testBit j=true)(hi:((n<<<t) % 2 ^ 32).testBit i=true):((m<<<t) % 2 ^ 32).testBit i=true:=by
 rw[Nat.testBit_mod_two_pow,Nat.testBit_shiftLeft] at hi ⊢
 simp only[Bool.and_eq_true,decide_eq_true_eq] at hi ⊢
 exact⟨hi.1,hi.2.1,h _ hi.2.2⟩
theorem Vm{z:Int}{m:Nat}{t i:Nat}(h:∀ j,(bw z).testBit j=true→m.testBit j=true)(hi:(bw (Za .u32 (Zf (Za .u32 z) t))).testBit i=true):((m<<<t) % 2 ^ 32).testBit i=true:=by
 rw[bw,Zdo,Zg2,Z0l] at hi
 exact Ywz h hi
theorem Qt{x y:Int}(j:Nat)(h:(bw (Ze .u32 x y)).testBit j=true):(bw y).testBit j=true:=by
 rw[bw,Zp7,Nat.testBit_and,Bool.and_eq_true] at h
 exact h.2
theorem Zv8{z:Int}{t i:Nat}(hi:(bw (Za .u32 (Zf z t))).testBit i=true):t≤i∧i<32:=by
 have e:bw (Za .u32 (Zf z t))=bw (Zf (.ofNat (bw z)) t):=by
  rw[bw,Zdo]
  have h1:=Zh3 (k:=.u32) (x:=Zf z t)
  have h2:=Zh3 (k:=.u32) (x:=Zf (.ofNat (bw z)) t)
  have h3:(Int.ofNat (bw z))=z % ((2 ^ IntKind.u32.bits:Nat):Int):=Zh3 (k:=.u32) (x:=z)
  refine Int.ofNat.inj ((h1.trans ?_).trans h2.symm)
  rw[Za9,Za9,h3,Int.mul_emod (z % _),Int.emod_emod_of_dvd _ (Int.dvd_refl _),←Int.mul_emod]
 rw[e,bw,Z0l,Nat.testBit_mod_two_pow,Nat.testBit_shiftLeft] at hi
 simp only[Bool.and_eq_true,decide_eq_true_eq] at hi
 exact⟨hi.2.1,hi.1⟩
theorem Qx{x y:Int}{m:Nat}{i:Nat}(hx:∀ i,(bw x).testBit i=true→m.testBit i=true)(hy:∀ i,(bw y).testBit i=true→m.testBit i=true)(h:(bw (Za .u32 (Zw .u32 x y))).testBit i=true):m.testBit i=true:=by
 rw[bw,Zdo,Znh,Nat.testBit_or,Bool.or_eq_true] at h
 rcases h with h|h
 ·exact hx i h
 ·exact hy i h
theorem Zk4{i:Nat}(h:10≤i∧i<32):Nat.testBit 4294966272 i=true:=by
 have:∀ i,i<32→10≤i→Nat.testBit 4294966272 i=true:=by decide
 exact this i h.2 h.1
theorem Kz{f:ArNum}(hok:okF f=true)(n:Int){i:Nat}(h:(bw (Vh f n)).testBit i=true):(Vi f).testBit i=true:=by
 have e:=Zpo f.t f.b f.k f.y f.l f.h n hok
 change _=some (AV.int .u32 (Vh f n)) at e
 unfold Zh9 at e
 unfold Vi
 rcases Ve e with⟨h1,e⟩|⟨h1,e⟩
 ·rw[h1]
  simp only[cond_true]
  rcases Ve e with⟨_,e⟩|⟨_,e⟩
  ·cases e
  rcases Ve e with⟨_,e⟩|⟨_,e⟩
  ·cases e
  rcases Ve e with⟨_,e⟩|⟨_,e⟩
  ·cases e
  simp only[Option.some.injEq,AV.int.injEq,true_and] at e
  rw[←e] at h
  exact Vm (fun j hj=>Qt j hj) h
 ·rw[h1]
  simp only[cond_false]
  rcases Ve e with⟨h2,e⟩|⟨h2,e⟩
  ·rw[h2]
   simp only[cond_true]
   simp only[Option.some.injEq,AV.int.injEq,true_and] at e
   rw[←e] at h
   refine Qx (fun i hi=>?_) (fun i hi=>?_) h
   ·have:=Vm (m:=bw (.ofNat 3)) (fun j hj=>Qt j hj) hi
    rw[show((bw (.ofNat 3)<<<29) % 2 ^ 32:Nat)=1610612736 by kernel_rfl] at this
    rw[show 1627389920=1610612736|||16777184 from rfl,Nat.testBit_or,this];rfl
   ·have:=Vm (m:=bw (.ofNat 524287)) (fun j hj=>Qt j hj) hi
    rw[show((bw (.ofNat 524287)<<<5) % 2 ^ 32:Nat)=16777184 by kernel_rfl] at this
    rw[show 1627389920=1610612736|||16777184 from rfl,Nat.testBit_or,this,Bool.or_true]
  ·rw[h2]
   simp only[cond_false]
   rcases Ve e with⟨h3,e⟩|⟨h3,e⟩
   ·rw[h3]
    simp only[cond_true]
    simp only[Option.some.injEq,AV.int.injEq,true_and] at e
    rw[←e] at h
    refine Qx (fun i hi=>Qx (fun i hi=>?_) (fun i hi=>?_) hi) (fun i hi=>?_) h
    ·have:=Zv8 hi;exact Zk4 ⟨by omega,this.2⟩
    ·have:=Zv8 hi;exact Zk4 ⟨by omega,this.2⟩
    ·have:=Zv8 hi;exact Zk4 ⟨by omega,this.2⟩
   ·simp only[Option.some.injEq,AV.int.injEq,true_and] at e
    rw[←e] at h
    exact absurd h (by rw[show bw (.ofNat 0)=0 from rfl,Nat.zero_testBit];decide)
def Zdu(x:ArRow):Bool:=okF x.a&&(okF x.b&&(okF x.c&&(okF x.d&&okF x.m)))
def Ji(x:ArRow)(a b c d m:Int):Int:=Za .u32 (Zw .u32 (Za .u32 (Zw .u32 (Za .u32 (Zw .u32 (Za .u32 (Zw .u32 (Za .u32 (Zw .u32 x.w (Vh x.a a))) (Vh x.b b))) (Vh x.c c))) (Vh x.d d))) (Vh x.m m))
theorem Z60(x:ArRow)(hok:Zdu x=true)(nm:List UInt8)(a b c d m:Int):J6 x.nm x.w x.a.t x.a.b x.a.k x.a.y x.a.l x.a.h x.b.t x.b.b x.b.k x.b.y x.b.l x.b.h x.c.t x.c.b x.c.k x.c.y x.c.l x.c.h x.d.t x.d.b x.d.k x.d.y x.d.l x.d.h x.m.t x.m.b x.m.k x.m.y x.m.l x.m.h x.ops nm a b c d m=Ji x a b c d m:=by
 have h:=Zmk x.nm x.w x.a.t x.a.b x.a.k x.a.y x.a.l x.a.h x.b.t x.b.b x.b.k x.b.y x.b.l x.b.h x.c.t x.c.b x.c.k x.c.y x.c.l x.c.h x.d.t x.d.b x.d.k x.d.y x.d.l x.d.h x.m.t x.m.b x.m.k x.m.y x.m.l x.m.h x.ops nm a b c d m hok
 unfold Zdu okF at hok
 simp only[Bool.and_eq_true] at hok
 obtain⟨o1,o2,o3,o4,o5⟩:=hok
 unfold Zef at h
 simp only[o1,o2,o3,o4,o5,W9,J7,Ym,Option.some.injEq,AV.int.injEq,true_and] at h
 exact h.symm
theorem Zw3{x:ArRow}(hok:Zdu x=true)(w:Int):arW w x=Ji x (Yi x.a w) (Yi x.b w) (Yi x.c w) (Yi x.d w) (Yi x.m w):=Z60 x hok x.nm _ _ _ _ _
def Z7k(x:ArRow):Nat:=bw x.w|||Vi x.a|||Vi x.b|||Vi x.c|||Vi x.d|||Vi x.m
theorem Z8c{x:ArRow}(hok:Zdu x=true){a b c d m:Int}{i:Nat}(h:(bw (Ji x a b c d m)).testBit i=true):(Z7k x).testBit i=true:=by
 unfold Zdu at hok
 simp only[Bool.and_eq_true] at hok
 obtain⟨o1,o2,o3,o4,o5⟩:=hok
 unfold Z7k
 refine Qx (fun i hi=>Qx (fun i hi=>Qx (fun i hi=>Qx (fun i hi=>Qx (fun i hi=>?_) (fun i hi=>?_) hi) (fun i hi=>?_) hi) (fun i hi=>?_) hi) (fun i hi=>?_) hi) (fun i hi=>?_) h
 ·simp only[Nat.testBit_or,hi,Bool.true_or]
 ·simp only[Nat.testBit_or,Kz o1 _ hi,Bool.true_or,Bool.or_true]
 ·simp only[Nat.testBit_or,Kz o2 _ hi,Bool.true_or,Bool.or_true]
 ·simp only[Nat.testBit_or,Kz o3 _ hi,Bool.true_or,Bool.or_true]
 ·simp only[Nat.testBit_or,Kz o4 _ hi,Bool.true_or,Bool.or_true]
 ·simp only[Nat.testBit_or,Kz o5 _ hi,Bool.or_true]
theorem Z8y{x:ArRow}{a b c d m:Int}{i:Nat}(h:(bw x.w).testBit i=true):(bw (Ji x a b c d m)).testBit i=true:=by
 have up:∀{x y:Int},(bw x).testBit i=true→(bw (Za .u32 (Zw .u32 x y))).testBit i=true:=fun{x y} h=>by
  rw[bw,Zdo,Znh,Nat.testBit_or,h];rfl
 exact up (up (up (up (up h))))
def Y13(known:List (Nat×Bool))(x:ArRow):Bool:=Zdu x&&known.any fun k=>bif k.2 then !((Z7k x).testBit k.1) else(bw x.w).testBit k.1
theorem miss{w:Int}{known:List (Nat×Bool)}(hk:∀ k∈known,(bw w).testBit k.1=k.2){x:ArRow}(h:Y13 known x=true):Vx w x=false:=by
 unfold Y13 at h
 rw[Bool.and_eq_true,List.any_eq_true] at h
 obtain⟨hok,⟨i,b⟩,hm,hb⟩:=h
 have hi:=hk _ hm
 cases hh:Vx w x with
 |false=>rfl
 |true=>
  exfalso
  unfold Vx at hh
  rw[Bool.and_eq_true] at hh
  have e:=hh.2
  rw[Yvs,decide_eq_true_iff,Zw3 hok] at e
  cases b with
  |true=>
   simp only[cond_true,Bool.not_eq_true'] at hb
   simp only at hi
   rw[←e] at hi
   rw[Z8c hok hi] at hb
   cases hb
  |false=>
   simp only[cond_false] at hb
   simp only at hi
   have:=Z8y (x:=x) (a:=Yi x.a w) (b:=Yi x.b w) (c:=Yi x.c w) (d:=Yi x.d w) (m:=Yi x.m w) hb
   rw[e,hi] at this
   cases this
theorem Z7z{w:Int}{x:ArRow}(h:Wm.find? (Vx w)=some x):arDN w=x.nm∧arDA w=Yi x.a w∧arDB w=Yi x.b w∧arDC w=Yi x.c w∧arDD w=Yi x.d w∧arDI w=Yi x.m w∧arDE w=.ofNat 0:=by
 have e:arO w=Z0p w (some x):=by unfold arO;rw[h]
 unfold arDN arDA arDB arDC arDD arDI arDE
 rw[e]
 exact⟨rfl,rfl,rfl,rfl,rfl,rfl,rfl⟩
end
end Go.Proofs.YtaakhjmfojoodaaGreatDoor
namespace Go.Proofs.YtaakhjmfojoodaaGreatDoor
open Go Go.Vai
noncomputable section
set_option maxRecDepth 100000
abbrev fN:ArNum:=⟨.ofNat 0,.ofNat 0,.ofNat 0,.ofNat 0,.ofNat 0,.ofNat 0⟩
abbrev fR0:ArNum:=⟨.ofNat 0,.ofNat 5,.ofNat 1,.ofNat 1,.ofNat 0,.ofNat 31⟩
abbrev fR5:ArNum:=⟨.ofNat 5,.ofNat 5,.ofNat 1,.ofNat 1,.ofNat 0,.ofNat 31⟩
abbrev f22:ArNum:=⟨.ofNat 22,.ofNat 1,.ofNat 1,.ofNat 1,.ofNat 0,.ofNat 1⟩
abbrev fC4:ArNum:=⟨.ofNat 0,.ofNat 4,.ofNat 1,.ofNat 1,.ofNat 0,.ofNat 13⟩
abbrev Yh2:ArNum:=⟨.ofNat 10,.ofNat 12,.ofNat 1,.ofNat 1,.ofNat 0,.ofNat 4095⟩
abbrev fAp:ArNum:=⟨.ofNat 0,.ofNat 0,.ofNat 2,.ofNat 1,.negSucc 1048575,.ofNat 1048575⟩
abbrev Yeu:ArNum:=⟨.ofNat 0,.ofNat 26,.ofNat 1,.ofNat 4,.negSucc 134217727,.ofNat 134217724⟩
abbrev Yco:ArNum:=⟨.ofNat 5,.ofNat 19,.ofNat 1,.ofNat 4,.negSucc 1048575,.ofNat 1048572⟩
theorem a19(x:Int):Ze .u32 x (.ofNat 524287)=x % 524288:=Zma 19 rfl (by decide)
theorem a26(x:Int):Ze .u32 x (.ofNat 67108863)=x % 67108864:=Zma 26 rfl (by decide)
theorem Yzh(w:Int):Yi fN w=.ofNat 0:=by
 show Yf _ _ _ _ _ _ _=_
 rfl
theorem Yne(w:Int):Yi fR0 w=w % 32:=by
 show Za .i64 (Int.mul (Za .i64 (Za .u32 (Ze .u32 (Zc w 0) (.ofNat 31)))) (.ofNat 1))=_
 simp only[a31,Zrl,Z1,Yp,Kx]
 simp only[J3]
 omega
theorem Yjg(w:Int):Yi fR5 w=w / 32 % 32:=by
 show Za .i64 (Int.mul (Za .i64 (Za .u32 (Ze .u32 (Zc w 5) (.ofNat 31)))) (.ofNat 1))=_
 simp only[a31,Zrl,Z1,Yp,Kx]
 simp only[J3]
 omega
theorem Ypy(w:Int):Yi f22 w=w / 4194304 % 2:=by
 show Za .i64 (Int.mul (Za .i64 (Za .u32 (Ze .u32 (Zc w 22) (.ofNat 1)))) (.ofNat 1))=_
 simp only[a1,Zrl,Z1,Yp,Kx]
 simp only[J3]
 omega
theorem Ykd(w:Int):Yi fC4 w=w % 16:=by
 show Za .i64 (Int.mul (Za .i64 (Za .u32 (Ze .u32 (Zc w 0) (.ofNat 15)))) (.ofNat 1))=_
 simp only[a15,Zrl,Z1,Yp,Kx]
 simp only[J3]
 omega
theorem Ytm(n:Int):Vh Yh2 n=n % 4096*1024:=by
 show Za .u32 (Zf (Za .u32 (Ze .u32 (Za .u32 (Za .i64 (Int.tdiv n (.ofNat 1)))) (.ofNat 4095))) 10)=_
 simp only[Zi4,Y73,Z1,Yp,Za9]
 omega
theorem Yts(w:Int):Yi Yh2 w=w / 1024 % 4096:=by
 show Za .i64 (Int.mul (Za .i64 (Za .u32 (Ze .u32 (Zc w 10) (.ofNat 4095)))) (.ofNat 1))=_
 simp only[Zi4,Zrl,Z1,Yp,Kx]
 simp only[J3]
 omega
theorem p29:((2 ^ 29:Nat):Int)=536870912:=rfl
theorem Y5c(n:Int):Vh fAp n=n % 4*536870912+n / 4 % 524288*32:=by
 show Za .u32 (Zw .u32 (Za .u32 (Zf (Za .u32 (Ze .u32 (Za .u32 n) (.ofNat 3))) 29)) (Za .u32 (Zf (Za .u32 (Ze .u32 (Za .u32 (Zc n 2)) (.ofNat 524287))) 5)))=_
 simp only[a3,a19,Z1,Za9,Kx]
 rw[show n % 4294967296 % 4 % 4294967296*((2 ^ 29:Nat):Int) % 4294967296=n % 4*536870912 by omega,show n / ((2 ^ 2:Nat):Int) % 4294967296 % 524288 % 4294967296*((2 ^ 5:Nat):Int) % 4294967296=n / 4 % 524288*32 by omega]
 rw[Yh8 (kd:=.u32) 29 (by omega) (by rw[p29];omega) (by omega) (by rw[p32];omega) (by rw[p29];omega) (by decide)]
 omega
theorem Y4s(w:Int)(h:0≤w∧w<4294967296):Yi fAp w=(w / 32 % 524288*4+w / 536870912 % 4+1048576) % 2097152 - 1048576:=by
 show Za .i64 (Zc (Za .i32 (Za .u32 (Zf (Za .u32 (Zw .u32 (Za .u32 (Zf (Za .u32 (Ze .u32 (Zc w 5) (.ofNat 524287))) 2)) (Za .u32 (Ze .u32 (Zc w 29) (.ofNat 3))))) 11))) 11)=_
 simp only[a3,a19,Z1,Yp,Kk,Za9,Kx]
 rw[show w / ((2 ^ 5:Nat):Int) % 524288 % 4294967296*((2 ^ 2:Nat):Int) % 4294967296=w / 32 % 524288*4 by omega,show w / ((2 ^ 29:Nat):Int) % 4 % 4294967296=w / 536870912 % 4 by omega]
 rw[Yh8 (kd:=.u32) 2 (by omega) (by show _<(4:Int);omega) (by omega) (by rw[p32];omega) (by show _ % (4:Int)=0;omega) (by decide)]
 have hx:0≤w / 32 % 524288*4+w / 536870912 % 4∧w / 32 % 524288*4+w / 536870912 % 4<2097152:=by omega
 generalize w / 32 % 524288*4+w / 536870912 % 4=x at hx ⊢
 omega
def Zj1(x:ArRow)(nm:List UInt8)(a b c d m:Int):Int:=Kb x.nm x.w x.a.t x.a.b x.a.k x.a.y x.a.l x.a.h x.b.t x.b.b x.b.k x.b.y x.b.l x.b.h x.c.t x.c.b x.c.k x.c.y x.c.l x.c.h x.d.t x.d.b x.d.k x.d.y x.d.l x.d.h x.m.t x.m.b x.m.k x.m.y x.m.l x.m.h x.ops nm a b c d m
end
end Go.Proofs.YtaakhjmfojoodaaGreatDoor
namespace Go.Proofs.YtaakhjmfojoodaaGreatDoor
open Go Go.Vai
noncomputable section
set_option maxRecDepth 100000
theorem Yz9{n:Int}(h:n % 4=0):Int.tdiv n (.ofNat 4)=n / 4:=by
 obtain⟨k,rfl⟩:=Int.dvd_of_emod_eq_zero h
 show Int.tdiv (4*k) 4=_
 rw[Int.mul_tdiv_cancel_left k (by decide)]
 omega
theorem Yto{n:Int}(h:n % 4=0):Vh Yeu n=n / 4 % 67108864:=by
 show Za .u32 (Zf (Za .u32 (Ze .u32 (Za .u32 (Za .i64 (Int.tdiv n (.ofNat 4)))) (.ofNat 67108863))) 0)=_
 simp only[a26,Yz9 h,Z1,Yp,Za9]
 omega
theorem Yw6(w:Int):Yi Yeu w=((w % 67108864+33554432) % 67108864 - 33554432)*4:=by
 show Za .i64 (Int.mul (Za .i64 (Zc (Za .i32 (Za .u32 (Zf (Za .u32 (Ze .u32 (Zc w 0) (.ofNat 67108863))) 6))) 6)) (.ofNat 4))=_
 simp only[a26,Zrl,Z1,Yp,Kk,Kx,Za9]
 simp only[J3]
 rw[show w / ((2 ^ 0:Nat):Int) % 67108864 % 4294967296=w % 67108864 by omega]
 have hx:0≤w % 67108864∧w % 67108864<67108864:=by omega
 generalize w % 67108864=x at hx ⊢
 omega
theorem Yyi{n:Int}(h:n % 4=0):Vh Yco n=n / 4 % 524288*32:=by
 show Za .u32 (Zf (Za .u32 (Ze .u32 (Za .u32 (Za .i64 (Int.tdiv n (.ofNat 4)))) (.ofNat 524287))) 5)=_
 simp only[a19,Yz9 h,Z1,Yp,Za9]
 omega
theorem Yye(w:Int):Yi Yco w=((w / 32 % 524288+262144) % 524288 - 262144)*4:=by
 show Za .i64 (Int.mul (Za .i64 (Zc (Za .i32 (Za .u32 (Zf (Za .u32 (Ze .u32 (Zc w 5) (.ofNat 524287))) 13))) 13)) (.ofNat 4))=_
 simp only[a19,Zrl,Z1,Yp,Kk,Kx,Za9]
 simp only[J3]
 rw[show w / ((2 ^ 5:Nat):Int) % 524288 % 4294967296=w / 32 % 524288 by omega]
 have hx:0≤w / 32 % 524288∧w / 32 % 524288<524288:=by omega
 generalize w / 32 % 524288=x at hx ⊢
 omega
def Zpf(x:Option AV):Prop:=∃ n r s b,x=some (.tup [.int .i64 n,.int .i64 r,.int .i64 s,.bool b])∧(∃ k:Nat,n=.ofNat k∧k<2)∧(∃ k:Nat,r=.ofNat k∧k<64)∧-1≤s∧s≤127
theorem Zdd{b:Bool}{x y:Option AV}(hx:Zpf x)(hy:Zpf y):Zpf (bc b x y):=by cases b <;> assumption
theorem Z1n{n r s:Nat}{b:Bool}(hn:n<2)(hr:r<64)(hs:s≤127):Zpf (some (.tup [.int .i64 (.ofNat n),.int .i64 (.ofNat r),.int .i64 (.ofNat s),.bool b])):=⟨_,_,_,_,rfl,⟨n,rfl,hn⟩,⟨r,rfl,hr⟩,by rw[J3];omega,by rw[J3];omega⟩
theorem Ytu{n r p:Nat}{b:Bool}(hn:n<2)(hr:r<64)(hp:p≤127):Zpf (some (.tup [.int .i64 (.ofNat n),.int .i64 (.ofNat r),.int .i64 (pr p),.bool b])):=by
 have e:pr p=(p:Int) - 1:=by
  show Za .i64 (Int.sub (.ofNat p) (.ofNat 1))=_
  rw[Yp,subB,J3,J3];omega
 exact⟨_,_,_,_,rfl,⟨n,rfl,hn⟩,⟨r,rfl,hr⟩,by rw[e];omega,by rw[e];omega⟩
theorem Yxr{n r c p:Nat}{b:Bool}(hn:n<2)(hr:r<64)(hc:c≤127)(hp:p≤127):Zpf (some (.tup [.int .i64 (.ofNat n),.int .i64 (.ofNat r),.int .i64 (Za .i64 (Int.sub (Za .i64 (Zw .i64 (.ofNat c) (.ofNat p))) (.ofNat 1))),.bool b])):=by
 have h:∃ q:Nat,Zw .i64 (.ofNat c) (.ofNat p)=(q:Int)∧q<128:=by
  refine⟨c|||p,?_,Nat.or_lt_two_pow (n:=7) (by omega) (by omega)⟩
  unfold Zw
  rw[J3,J3,J3,Go.Vai.bits_nat (k:=.i64) (by show c<18446744073709551616;omega),Go.Vai.bits_nat (k:=.i64) (by show p<18446744073709551616;omega)]
  rfl
 obtain⟨q,hq,hl⟩:=h
 have e:Za .i64 (Int.sub (Za .i64 (Zw .i64 (.ofNat c) (.ofNat p))) (.ofNat 1))=(q:Int) - 1:=by
  rw[hq,subB]
  simp only[Yp,J3]
  omega
 exact⟨_,_,_,_,rfl,⟨n,rfl,hn⟩,⟨r,rfl,hr⟩,by rw[e];omega,by rw[e];omega⟩
theorem Yzl{m:Int}{e N:Nat}{S:Int}(he:e≤64)(h:∀ k,k<64→Zpf (some (.tup [.int .i64 (.ofNat N),.int .i64 (.ofNat k),.int .i64 S,.bool true]))):Zpf (oE m e N S):=by
 unfold oE
 generalize hL:List.range e=l
 have hl:∀ k∈l,k<64:=by
  rw[←hL]
  intro k hk
  have:=List.mem_range.1 hk
  omega
 clear hL
 induction l with
 |nil=>exact Z1n (by decide) (by decide) (by decide)
 |cons k l ih=>exact Zdd (ih fun j hj=>hl j (List.mem_cons_of_mem _ hj)) (h k (hl k List.mem_cons_self))
theorem Y4b(m:Int):Zpf (ofT m):=by
 unfold ofT o0
 have z:Zpf (some (.tup [.int .i64 (.ofNat 0),.int .i64 (.ofNat 0),.int .i64 (.ofNat 0),.bool false])):=Z1n (by decide) (by decide) (by decide)
 have q:∀{e c p:Nat},e≤64→c≤127→p≤127→Zpf (oE m e 0 (Za .i64 (Int.sub (Za .i64 (Zw .i64 (.ofNat c) (.ofNat p))) (.ofNat 1)))):=fun he hc hp=>Yzl he fun k hk=>Yxr (by decide) hk hc hp
 exact Zdd z (Zdd z (Zdd (Zdd (Zdd (Zdd (Zdd (Yzl (by decide) fun k hk=>Ytu (by decide) hk (Zkw _)) (q (by decide) (by decide) (Zkw _))) (q (by decide) (by decide) (Zkw _))) (q (by decide) (by decide) (Zkw _))) (q (by decide) (by decide) (Zkw _))) (q (by decide) (by decide) (Zkw _))))
abbrev fK3:ArNum:=⟨.ofNat 0,.ofNat 0,.ofNat 3,.ofNat 0,.ofNat 0,.ofNat 0⟩
abbrev Zyt:ArRow:=⟨[97,110,100,46,105],.ofNat 2449473536,fR0,fR5,fN,fN,fK3,[65,66,105]⟩
theorem n26:∀ k:Nat,k<2→(bw (Za .u32 (Zf (Za .u32 (.ofNat k)) 22))).testBit 26=false:=by decide +kernel
theorem r26:∀ k:Nat,k<64→(bw (Za .u32 (Zf (Za .u32 (.ofNat k)) 16))).testBit 26=false:=by decide +kernel
theorem s26:∀ k:Nat,k<128→(bw (Za .u32 (Zf (Za .u32 (.ofNat k)) 10))).testBit 26=false:=by decide +kernel
theorem s30:(bw (Za .u32 (Zf (Za .u32 (-1)) 10))).testBit 30=true:=by decide +kernel
theorem or_bit{x y:Int}(i:Nat):(bw (Za .u32 (Zw .u32 x y))).testBit i=((bw x).testBit i||(bw y).testBit i):=by
 rw[bw,Zdo,Znh,Nat.testBit_or]
theorem Y1t(n:Int)(h:(bw (Vh fK3 n)).testBit 26=true):(bw (Vh fK3 n)).testBit 30=true:=by
 have e:Vh fK3 n=Za .u32 (Zw .u32 (Za .u32 (Zw .u32 (Za .u32 (Zf (Za .u32 (ofN (Za .u64 n))) 22)) (Za .u32 (Zf (Za .u32 (ofR (Za .u64 n))) 16)))) (Za .u32 (Zf (Za .u32 (ofS (Za .u64 n))) 10))):=rfl
 rw[e,or_bit,or_bit] at h ⊢
 obtain⟨a,b,c,d,h1,⟨k1,rfl,l1⟩,⟨k2,rfl,l2⟩,g1,g2⟩:=Y4b (Za .u64 n)
 have h2:=Z8j (Za .u64 n)
 rw[h1] at h2
 simp only[Option.some.injEq,AV.tup.injEq,List.cons.injEq,AV.int.injEq,true_and,and_true] at h2
 obtain⟨e1,e2,e3,_⟩:=h2
 rw[←e1,←e2,←e3,n26 k1 l1,r26 k2 l2,Bool.false_or,Bool.false_or] at h
 rw[←e3]
 by_cases g:0≤c
 ·obtain⟨k,rfl⟩:=Int.eq_ofNat_of_zero_le g
  have:=s26 k (by omega)
  rw[J3] at this
  rw[this] at h
  cases h
 ·obtain rfl:c=-1:=by omega
  rw[s30,Bool.or_true]
theorem Z96{W:Int}(h26:(bw W).testBit 26=true)(h30:(bw W).testBit 30=false):Vx W Zyt=false:=by
 cases hh:Vx W Zyt with
 |false=>rfl
 |true=>
  exfalso
  unfold Vx at hh
  rw[Bool.and_eq_true] at hh
  have e:=hh.2
  rw[Yvs,decide_eq_true_iff,Zw3 rfl] at e
  have eb:∀ i,(bw W).testBit i=((((((bw Zyt.w).testBit i||(bw (Vh fR0 (Yi fR0 W))).testBit i)||(bw (Vh fR5 (Yi fR5 W))).testBit i)||(bw (Vh fN (Yi fN W))).testBit i)||(bw (Vh fN (Yi fN W))).testBit i)||(bw (Vh fK3 (Yi fK3 W))).testBit i):=fun i=>by
   rw[←or_bit,←or_bit,←or_bit,←or_bit,←or_bit]
   exact(congrArg (fun z=>(bw z).testBit i) e).symm
  have lo:∀(f:ArNum)(n:Int),okF f=true→(Vi f).testBit 26=false→(bw (Vh f n)).testBit 26=false:=fun f n ok hs=>by
   cases hb:(bw (Vh f n)).testBit 26 with
   |false=>rfl
   |true=>rw[Kz ok n hb] at hs;cases hs
  have h1:=eb 26
  rw[h26,show(bw Zyt.w).testBit 26=false by decide +kernel,lo fR0 _ rfl (by decide +kernel),lo fR5 _ rfl (by decide +kernel),lo fN _ rfl (by decide +kernel)] at h1
  simp only[Bool.false_or] at h1
  have h2:=eb 30
  rw[h30,Y1t _ h1.symm,Bool.or_true] at h2
  cases h2
theorem Y4t{w:Int}{x:ArRow}(hok:Zdu x=true)(hf:Zj1 x x.nm (Yi x.a w) (Yi x.b w) (Yi x.c w) (Yi x.d w) (Yi x.m w)=.ofNat 0)(hw:Ji x (Yi x.a w) (Yi x.b w) (Yi x.c w) (Yi x.d w) (Yi x.m w)=w):Vx w x=true:=by
 unfold Vx
 rw[Zw3 hok,hw,Bool.and_eq_true]
 refine⟨?_,by rw[Yvs];simp⟩
 show Zd (Zj1 x x.nm (Yi x.a w) (Yi x.b w) (Yi x.c w) (Yi x.d w) (Yi x.m w)) _=true
 rw[hf];rfl
end
end Go.Proofs.YtaakhjmfojoodaaGreatDoor
