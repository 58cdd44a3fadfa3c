/- riscv: a word whose number is put anew is of the same row, with the same registers. -/
import Derived.Test.YtaakhjmfojoodaaGreatDoorArEnc
import Derived.Test.YtaakhjmfojoodaaGreatDoorRvEnc
namespace Go.Proofs.YtaakhjmfojoodaaGreatDoor
open Go Go.Vai
noncomputable section
set_option maxRecDepth 100000
theorem Y9d(n:Int):Jx (.ofNat 4) n=n % 32*128+n / 32 % 128*33554432:=by
 show Za .u32 (Zw .u32 (Za .u32 (Zf (Za .u32 (Ze .u32 (Za .u32 (Zc n 0)) (.ofNat 31))) 7)) (Za .u32 (Zf (Za .u32 (Ze .u32 (Za .u32 (Zc n 5)) (.ofNat 127))) 25)))=_
 simp only[a31,Yta,Z1,Kx,Za9]
 rw[show n / ((2 ^ 0:Nat):Int) % 4294967296 % 32 % 4294967296*((2 ^ 7:Nat):Int) % 4294967296=n % 32*128 by omega,show n / ((2 ^ 5:Nat):Int) % 4294967296 % 128 % 4294967296*((2 ^ 25:Nat):Int) % 4294967296=n / 32 % 128*33554432 by omega]
 have h1:0≤n % 32∧n % 32<32:=by omega
 have h2:0≤n / 32 % 128∧n / 32 % 128<128:=by omega
 generalize n % 32=x1 at *
 generalize n / 32 % 128=x2 at *
 rw[Ze6 (kd:=.u32) (x:=x1*128) (y:=x2*33554432) 25 (by omega) (by rw[q25];omega) (by omega) (by rw[p32];omega) (by rw[q25];omega) (by decide)]
 omega
theorem Yhm(w:Int)(h:0≤w∧w<4294967296):Qc (.ofNat 4) w=(w / 128 % 32+w / 33554432 % 128*32+2048) % 4096 - 2048:=by
 show Za .i64 (Zc (Za .i32 (Za .u32 (Zf (Za .u32 (Zw .u32 (Za .u32 (Zf (Za .u32 (Ze .u32 (Zc w 7) (.ofNat 31))) 0)) (Za .u32 (Zf (Za .u32 (Ze .u32 (Zc w 25) (.ofNat 127))) 5)))) 20))) 20)=_
 simp only[a31,Yta,Z1,Kk,Yp,Kx,Za9]
 rw[show w / ((2 ^ 7:Nat):Int) % 32 % 4294967296*((2 ^ 0:Nat):Int) % 4294967296=w / 128 % 32 by omega,show w / ((2 ^ 25:Nat):Int) % 128 % 4294967296*((2 ^ 5:Nat):Int) % 4294967296=w / 33554432 % 128*32 by omega]
 have h1:0≤w / 128 % 32∧w / 128 % 32<32:=by omega
 have h2:0≤w / 33554432 % 128∧w / 33554432 % 128<128:=by omega
 generalize w / 128 % 32=x1 at *
 generalize w / 33554432 % 128=x2 at *
 rw[Ze6 (kd:=.u32) (x:=x1) (y:=x2*32) 5 (by omega) (by rw[pw5];omega) (by omega) (by rw[p32];omega) (by rw[pw5];omega) (by decide)]
 omega
theorem Zyi(rn:List UInt8)(rw w:Int)(h:0≤w∧w<4294967296):Zdj rn (.ofNat 4) rw w=rn∧K5 rn (.ofNat 4) rw w=.ofNat 0∧K4 rn (.ofNat 4) rw w=w / 32768 % 32∧K2 rn (.ofNat 4) rw w=w / 1048576 % 32∧Zaj rn (.ofNat 4) rw w=.ofNat 0∧Zeh rn (.ofNat 4) rw w=(w / 128 % 32+w / 33554432 % 128*32+2048) % 4096 - 2048:=by
 have e:=Jr rn (.ofNat 4) rw w
 unfold V2 at e
 simp only[W9,Zas,J7,show Zr8 (.ofNat 4)=false by kernel_rfl,show Zp1 (.ofNat 4)=true by kernel_rfl,show Zmc (.ofNat 4)=true by kernel_rfl,Ym,Yg,Option.some.injEq,AV.agg.injEq,List.cons.injEq,AV.str.injEq,AV.int.injEq,true_and,and_true] at e
 obtain⟨e1,e2,e3,e4,e5,e6⟩:=e
 rw[←e1,←e2,←e3,←e4,←e5,←e6,Yhm w h]
 simp only[a31,Z1,Yp,Kx,p15,p20]
 refine⟨trivial,trivial,by omega,by omega,trivial,trivial⟩
def J4(fm:Int):Nat:=bif Zd fm (.ofNat 1) then(4095<<<20) % 2 ^ 32 else bif Zd fm (.ofNat 4)||Zd fm (.ofNat 5) then 4261416832 else 4294963200
theorem Yx2{fm:Int}(hf:fm=.ofNat 1∨fm=.ofNat 4∨fm=.ofNat 5∨fm=.ofNat 6∨fm=.ofNat 7)(n:Int){i:Nat}(h:(bw (Jx fm n)).testBit i=true):(J4 fm).testBit i=true:=by
 have sub:∀{a b:Nat}{i:Nat},a&&&b=a→a.testBit i=true→b.testBit i=true:=fun{a b i} e h=>by
  rw[←e,Nat.testBit_and,Bool.and_eq_true] at h;exact h.2
 rcases hf with rfl|rfl|rfl|rfl|rfl
 ·exact sub (a:=(bw (.ofNat 4095)<<<20) % 2 ^ 32) (by decide +kernel) (Vm (m:=bw (.ofNat 4095)) (t:=20) (z:=Ze .u32 (Za .u32 (Zc n 0)) (.ofNat 4095)) (fun j hj=>Qt j hj) h)
 ·refine Qx (x:=Za .u32 (Zf (Za .u32 (Ze .u32 (Za .u32 (Zc n 0)) (.ofNat 31))) 7)) (y:=Za .u32 (Zf (Za .u32 (Ze .u32 (Za .u32 (Zc n 5)) (.ofNat 127))) 25)) (fun i hi=>?_) (fun i hi=>?_) h
  ·exact sub (a:=(bw (.ofNat 31)<<<7) % 2 ^ 32) (by decide +kernel) (Vm (m:=bw (.ofNat 31)) (fun j hj=>Qt j hj) hi)
  ·exact sub (a:=(bw (.ofNat 127)<<<25) % 2 ^ 32) (by decide +kernel) (Vm (m:=bw (.ofNat 127)) (fun j hj=>Qt j hj) hi)
 ·refine Qx (x:=Za .u32 (Zw .u32 (Za .u32 (Zw .u32 (Za .u32 (Zf (Za .u32 (Ze .u32 (Za .u32 (Zc n 1)) (.ofNat 15))) 8)) (Za .u32 (Zf (Za .u32 (Ze .u32 (Za .u32 (Zc n 5)) (.ofNat 63))) 25)))) (Za .u32 (Zf (Za .u32 (Ze .u32 (Za .u32 (Zc n 11)) (.ofNat 1))) 7)))) (y:=Za .u32 (Zf (Za .u32 (Ze .u32 (Za .u32 (Zc n 12)) (.ofNat 1))) 31)) (fun i hi=>Qx (fun i hi=>Qx (fun i hi=>?_) (fun i hi=>?_) hi) (fun i hi=>?_) hi) (fun i hi=>?_) h
  ·exact sub (a:=(bw (.ofNat 15)<<<8) % 2 ^ 32) (by decide +kernel) (Vm (m:=bw (.ofNat 15)) (fun j hj=>Qt j hj) hi)
  ·exact sub (a:=(bw (.ofNat 63)<<<25) % 2 ^ 32) (by decide +kernel) (Vm (m:=bw (.ofNat 63)) (fun j hj=>Qt j hj) hi)
  ·exact sub (a:=(bw (.ofNat 1)<<<7) % 2 ^ 32) (by decide +kernel) (Vm (m:=bw (.ofNat 1)) (fun j hj=>Qt j hj) hi)
  ·exact sub (a:=(bw (.ofNat 1)<<<31) % 2 ^ 32) (by decide +kernel) (Vm (m:=bw (.ofNat 1)) (fun j hj=>Qt j hj) hi)
 ·exact sub (a:=(bw (.ofNat 1048575)<<<12) % 2 ^ 32) (by decide +kernel) (Vm (m:=bw (.ofNat 1048575)) (t:=12) (z:=Ze .u32 (Za .u32 (Zc n 0)) (.ofNat 1048575)) (fun j hj=>Qt j hj) h)
 ·refine Qx (x:=Za .u32 (Zw .u32 (Za .u32 (Zw .u32 (Za .u32 (Zf (Za .u32 (Ze .u32 (Za .u32 (Zc n 1)) (.ofNat 1023))) 21)) (Za .u32 (Zf (Za .u32 (Ze .u32 (Za .u32 (Zc n 11)) (.ofNat 1))) 20)))) (Za .u32 (Zf (Za .u32 (Ze .u32 (Za .u32 (Zc n 12)) (.ofNat 255))) 12)))) (y:=Za .u32 (Zf (Za .u32 (Ze .u32 (Za .u32 (Zc n 20)) (.ofNat 1))) 31)) (fun i hi=>Qx (fun i hi=>Qx (fun i hi=>?_) (fun i hi=>?_) hi) (fun i hi=>?_) hi) (fun i hi=>?_) h
  ·exact sub (a:=(bw (.ofNat 1023)<<<21) % 2 ^ 32) (by decide +kernel) (Vm (m:=bw (.ofNat 1023)) (fun j hj=>Qt j hj) hi)
  ·exact sub (a:=(bw (.ofNat 1)<<<20) % 2 ^ 32) (by decide +kernel) (Vm (m:=bw (.ofNat 1)) (fun j hj=>Qt j hj) hi)
  ·exact sub (a:=(bw (.ofNat 255)<<<12) % 2 ^ 32) (by decide +kernel) (Vm (m:=bw (.ofNat 255)) (fun j hj=>Qt j hj) hi)
  ·exact sub (a:=(bw (.ofNat 1)<<<31) % 2 ^ 32) (by decide +kernel) (Vm (m:=bw (.ofNat 1)) (fun j hj=>Qt j hj) hi)
def Zfc(rw a b c:Int):Int:=Za .u32 (Zw .u32 (Za .u32 (Zw .u32 (Za .u32 (Zw .u32 rw (Za .u32 (Zf (Za .u32 a) 7)))) (Za .u32 (Zf (Za .u32 b) 15)))) (Za .u32 (Zf (Za .u32 c) 20)))
theorem Zjz(rn:List UInt8)(fm rw:Int)(nm:List UInt8)(a b c d n:Int):Xp rn fm rw nm a b c d n=Za .u32 (Zw .u32 (Zfc rw a b c) (Jx fm n)):=Zti ..
theorem Yj4{rn nm rn' nm':List UInt8}{fm rw a b c d d' m n:Int}(hf:fm=.ofNat 1∨fm=.ofNat 4∨fm=.ofNat 5∨fm=.ofNat 6∨fm=.ofNat 7){i:Nat}(h:(J4 fm).testBit i=false):(bw (Xp rn fm rw nm a b c d m)).testBit i=(bw (Zfc rw a b c)).testBit i∧(bw (Xp rn' fm rw nm' a b c d' n)).testBit i=(bw (Zfc rw a b c)).testBit i:=by
 have g:∀ n,(bw (Jx fm n)).testBit i=false:=fun n=>by
  cases e:(bw (Jx fm n)).testBit i with
  |false=>rfl
  |true=>rw[Yx2 hf n e] at h;cases h
 rw[Zjz,Zjz,Ze0,Ze0,g,g,Bool.or_false]
 exact⟨rfl,rfl⟩
theorem Z1p{a:Int}(h:0≤a∧a<32)(j:Nat)(hj:(bw a).testBit j=true):Nat.testBit 31 j=true:=by
 have e:=Z5x (x:=a) (by omega)
 have hl:bw a<32:=by omega
 by_cases g:j<5
 ·have:∀ j,j<5→Nat.testBit 31 j=true:=by decide
  exact this j g
 ·have h5:bw a<2 ^ j:=Nat.lt_of_lt_of_le hl (show 2 ^ 5≤2 ^ j from Nat.pow_le_pow_right (by decide) (by omega))
  rw[Nat.testBit_lt_two_pow h5] at hj;cases hj
theorem Zd0{rw a b c:Int}{i:Nat}(hr:(bw rw).testBit i=false)(ha:a=.ofNat 0∨(0≤a∧a<32)∧((31<<<7) % 2 ^ 32).testBit i=false)(hb:b=.ofNat 0∨(0≤b∧b<32)∧((31<<<15) % 2 ^ 32).testBit i=false)(hc:c=.ofNat 0∨(0≤c∧c<32)∧((31<<<20) % 2 ^ 32).testBit i=false):(bw (Zfc rw a b c)).testBit i=false:=by
 have z:∀(x:Int)(t:Nat),(x=.ofNat 0∨(0≤x∧x<32)∧((31<<<t) % 2 ^ 32).testBit i=false)→(bw (Za .u32 (Zf (Za .u32 x) t))).testBit i=false:=fun x t h=>by
  rcases h with rfl|⟨h1,h2⟩
  ·cases e:(bw (Za .u32 (Zf (Za .u32 (.ofNat 0)) t))).testBit i with
   |false=>rfl
   |true=>
    have:=Vm (m:=0) (fun j hj=>by rw[show bw (.ofNat 0)=0 from rfl] at hj;exact hj) e
    rw[Nat.zero_shiftLeft] at this
    simp at this
  ·cases e:(bw (Za .u32 (Zf (Za .u32 x) t))).testBit i with
   |false=>rfl
   |true=>
    rw[Vm (fun j hj=>Z1p h1 j hj) e] at h2;cases h2
 unfold Zfc
 rw[Ze0,Ze0,Ze0,hr,z a 7 ha,z b 15 hb,z c 20 hc]
 rfl
def Y7n(fm n:Int):Prop:=Z2 n (Zjq fm)=false∧Z2 (Zka fm) n=false∧Int.tmod n (Zj0 fm)=0
theorem Y10{rn nm:List UInt8}{fm rw a b c d n:Int}(h4:Zd (Zjq fm) (Zka fm)=false)(y0:Zd (Zj0 fm) (.ofNat 0)=false)(h:Zbu rn fm rw nm a b c d n=.ofNat 0):Y7n fm n:=by
 have e:=Zhz rn fm rw nm a b c d n
 rw[h] at e
 unfold Zah at e
 simp only[h4,y0,Yg] at e
 rcases Ve e with⟨_,e⟩|⟨_,e⟩
 ·cases e
 rcases Ve e with⟨_,e⟩|⟨_,e⟩
 ·cases e
 rcases Ve e with⟨_,e⟩|⟨_,e⟩
 ·cases e
 rcases Ve e with⟨_,e⟩|⟨_,e⟩
 ·cases e
 rcases Ve e with⟨_,e⟩|⟨g1,e⟩
 ·cases e
 rcases Ve e with⟨_,e⟩|⟨g2,e⟩
 ·cases e
 rcases Ve e with⟨_,e⟩|⟨g3,e⟩
 ·cases e
 refine⟨g1,g2,?_⟩
 rw[Bool.not_eq_false',Ya,decide_eq_true_eq] at g3
 exact g3
theorem Yua{fm W n:Int}(hf:fm=.ofNat 1∨fm=.ofNat 4∨fm=.ofNat 5∨fm=.ofNat 6∨fm=.ofNat 7)(hW:0≤W∧W<4294967296)(hn:Y7n fm n)(ha:∀ i,(J4 fm).testBit i=true→(bw W).testBit i=(bw (Jx fm n)).testBit i):Qc fm W=n:=by
 obtain⟨n1,n2,n3⟩:=hn
 rw[Y7b,decide_eq_false_iff_not] at n1 n2
 have at_:∀(t b:Nat),((List.range b).all fun i=>(J4 fm).testBit (t+i))=true→∀ i,t≤i→i<t+b→(J4 fm).testBit i=true:=fun t b h i h1 h2=>by
  have:=List.all_eq_true.1 h (i - t) (List.mem_range.2 (by omega))
  rw[show t+(i - t)=i by omega] at this
  exact this
 rcases hf with rfl|rfl|rfl|rfl|rfl
 ·simp only[show Zjq (.ofNat 1)=-2048 by kernel_rfl,show Zka (.ofNat 1)=2047 by kernel_rfl] at n1 n2
  rw[imm_I] at ha
  have:W / 1048576 % 4096=(n % 4096*1048576) / 1048576 % 4096:=Xd hW (y:=n % 4096*1048576) (by omega) 20 12 fun i h3 h4=>ha i (at_ 20 12 (by decide +kernel) i h3 h4)
  rw[Yi0 W hW]
  omega
 ·simp only[show Zjq (.ofNat 4)=-2048 by kernel_rfl,show Zka (.ofNat 4)=2047 by kernel_rfl] at n1 n2
  rw[Y9d] at ha
  have r:0≤n % 32*128+n / 32 % 128*33554432∧n % 32*128+n / 32 % 128*33554432<4294967296:=by omega
  have q1:W / 128 % 32=(n % 32*128+n / 32 % 128*33554432) / 128 % 32:=Xd hW r 7 5 fun i h3 h4=>ha i (at_ 7 5 (by decide +kernel) i h3 h4)
  have q2:W / 33554432 % 128=(n % 32*128+n / 32 % 128*33554432) / 33554432 % 128:=Xd hW r 25 7 fun i h3 h4=>ha i (at_ 25 7 (by decide +kernel) i h3 h4)
  rw[Yhm W hW,q1,q2]
  omega
 ·simp only[show Zjq (.ofNat 5)=-4096 by kernel_rfl,show Zka (.ofNat 5)=4094 by kernel_rfl,show Zj0 (.ofNat 5)=.ofNat 2 by kernel_rfl] at n1 n2 n3
  have h2:n % 2=0:=Ygo.1 n3
  rw[Yzs] at ha
  have hv:(n / 2 % 16*2+n / 32 % 64*32+n / 2048 % 2*2048+n / 4096 % 2*4096+4096) % 8192 - 4096=n:=by omega
  have g1:0≤n / 2 % 16∧n / 2 % 16<16:=by omega
  have g2:0≤n / 32 % 64∧n / 32 % 64<64:=by omega
  have g3:0≤n / 2048 % 2∧n / 2048 % 2<2:=by omega
  have g4:0≤n / 4096 % 2∧n / 4096 % 2<2:=by omega
  generalize n / 2 % 16=x1 at *
  generalize n / 32 % 64=x2 at *
  generalize n / 2048 % 2=x3 at *
  generalize n / 4096 % 2=x4 at *
  have r:0≤x1*256+x2*33554432+x3*128+x4*2147483648∧x1*256+x2*33554432+x3*128+x4*2147483648<4294967296:=by omega
  have q1:W / 256 % 16=(x1*256+x2*33554432+x3*128+x4*2147483648) / 256 % 16:=Xd hW r 8 4 fun i h3 h4=>ha i (at_ 8 4 (by decide +kernel) i h3 h4)
  have q2:W / 33554432 % 64=(x1*256+x2*33554432+x3*128+x4*2147483648) / 33554432 % 64:=Xd hW r 25 6 fun i h3 h4=>ha i (at_ 25 6 (by decide +kernel) i h3 h4)
  have q3:W / 128 % 2=(x1*256+x2*33554432+x3*128+x4*2147483648) / 128 % 2:=Xd hW r 7 1 fun i h3 h4=>ha i (at_ 7 1 (by decide +kernel) i h3 h4)
  have q4:W / 2147483648 % 2=(x1*256+x2*33554432+x3*128+x4*2147483648) / 2147483648 % 2:=Xd hW r 31 1 fun i h3 h4=>ha i (at_ 31 1 (by decide +kernel) i h3 h4)
  rw[Yhk W hW,q1,q2,q3,q4]
  rw[show(x1*256+x2*33554432+x3*128+x4*2147483648) / 256 % 16=x1 by omega,show(x1*256+x2*33554432+x3*128+x4*2147483648) / 33554432 % 64=x2 by omega,show(x1*256+x2*33554432+x3*128+x4*2147483648) / 128 % 2=x3 by omega,show(x1*256+x2*33554432+x3*128+x4*2147483648) / 2147483648 % 2=x4 by omega]
  exact hv
 ·simp only[show Zjq (.ofNat 6)=-524288 by kernel_rfl,show Zka (.ofNat 6)=524287 by kernel_rfl] at n1 n2
  rw[Y52] at ha
  have:W / 4096 % 1048576=(n % 1048576*4096) / 4096 % 1048576:=Xd hW (y:=n % 1048576*4096) (by omega) 12 20 fun i h3 h4=>ha i (at_ 12 20 (by decide +kernel) i h3 h4)
  rw[Yn8 W hW]
  omega
 ·simp only[show Zjq (.ofNat 7)=-1048576 by kernel_rfl,show Zka (.ofNat 7)=1048574 by kernel_rfl,show Zj0 (.ofNat 7)=.ofNat 2 by kernel_rfl] at n1 n2 n3
  have h2:n % 2=0:=Ygo.1 n3
  rw[imm_J] at ha
  have hv:(n / 2 % 1024*2+n / 2048 % 2*2048+n / 4096 % 256*4096+n / 1048576 % 2*1048576+1048576) % 2097152 - 1048576=n:=by omega
  have g1:0≤n / 2 % 1024∧n / 2 % 1024<1024:=by omega
  have g2:0≤n / 2048 % 2∧n / 2048 % 2<2:=by omega
  have g3:0≤n / 4096 % 256∧n / 4096 % 256<256:=by omega
  have g4:0≤n / 1048576 % 2∧n / 1048576 % 2<2:=by omega
  generalize n / 2 % 1024=x1 at *
  generalize n / 2048 % 2=x2 at *
  generalize n / 4096 % 256=x3 at *
  generalize n / 1048576 % 2=x4 at *
  have r:0≤x1*2097152+x2*1048576+x3*4096+x4*2147483648∧x1*2097152+x2*1048576+x3*4096+x4*2147483648<4294967296:=by omega
  have q1:W / 2097152 % 1024=(x1*2097152+x2*1048576+x3*4096+x4*2147483648) / 2097152 % 1024:=Xd hW r 21 10 fun i h3 h4=>ha i (at_ 21 10 (by decide +kernel) i h3 h4)
  have q2:W / 1048576 % 2=(x1*2097152+x2*1048576+x3*4096+x4*2147483648) / 1048576 % 2:=Xd hW r 20 1 fun i h3 h4=>ha i (at_ 20 1 (by decide +kernel) i h3 h4)
  have q3:W / 4096 % 256=(x1*2097152+x2*1048576+x3*4096+x4*2147483648) / 4096 % 256:=Xd hW r 12 8 fun i h3 h4=>ha i (at_ 12 8 (by decide +kernel) i h3 h4)
  have q4:W / 2147483648 % 2=(x1*2097152+x2*1048576+x3*4096+x4*2147483648) / 2147483648 % 2:=Xd hW r 31 1 fun i h3 h4=>ha i (at_ 31 1 (by decide +kernel) i h3 h4)
  rw[Yfi W hW,q1,q2,q3,q4]
  rw[show(x1*2097152+x2*1048576+x3*4096+x4*2147483648) / 2097152 % 1024=x1 by omega,show(x1*2097152+x2*1048576+x3*4096+x4*2147483648) / 1048576 % 2=x2 by omega,show(x1*2097152+x2*1048576+x3*4096+x4*2147483648) / 4096 % 256=x3 by omega,show(x1*2097152+x2*1048576+x3*4096+x4*2147483648) / 2147483648 % 2=x4 by omega]
  exact hv
def Zki(fm:Int):Bool:=Zd fm (.ofNat 1)||(Zd fm (.ofNat 4)||(Zd fm (.ofNat 5)||(Zd fm (.ofNat 6)||Zd fm (.ofNat 7))))
def Zzy(fm:Int):Bool:=Zd fm (.ofNat 1)||(Zd fm (.ofNat 4)||Zd fm (.ofNat 5))
theorem Zj8{fm:Int}(h:Zki fm=true):fm=.ofNat 1∨fm=.ofNat 4∨fm=.ofNat 5∨fm=.ofNat 6∨fm=.ofNat 7:=by
 unfold Zki at h
 simpa only[Bool.or_eq_true,Ya,decide_eq_true_eq] using h
theorem Zz7{fm:Int}(h:Zzy fm=true):fm=.ofNat 1∨fm=.ofNat 4∨fm=.ofNat 5:=by
 unfold Zzy at h
 simpa only[Bool.or_eq_true,Ya,decide_eq_true_eq] using h
theorem Yl7{rw a b c:Int}{i:Nat}(ha:0≤a∧a<32)(hb:0≤b∧b<32)(hc:0≤c∧c<32)(h7:((31<<<7) % 2 ^ 32).testBit i=false)(h15:((31<<<15) % 2 ^ 32).testBit i=false)(h20:((31<<<20) % 2 ^ 32).testBit i=false):(bw (Zfc rw a b c)).testBit i=(bw rw).testBit i:=by
 have z:∀(x:Int)(t:Nat),(0≤x∧x<32)→((31<<<t) % 2 ^ 32).testBit i=false→(bw (Za .u32 (Zf (Za .u32 x) t))).testBit i=false:=fun x t h1 h2=>by
  cases e:(bw (Za .u32 (Zf (Za .u32 x) t))).testBit i with
  |false=>rfl
  |true=>rw[Vm (fun j hj=>Z1p h1 j hj) e] at h2;cases h2
 unfold Zfc
 rw[Ze0,Ze0,Ze0,z a 7 ha h7,z b 15 hb h15,z c 20 hc h20,Bool.or_false,Bool.or_false,Bool.or_false]
theorem reads(rn:List UInt8)(rw:Int){fm w:Int}(hf:fm=.ofNat 1∨fm=.ofNat 4∨fm=.ofNat 5∨fm=.ofNat 6∨fm=.ofNat 7)(h:0≤w∧w<4294967296):Zdj rn fm rw w=rn∧(0≤K5 rn fm rw w∧K5 rn fm rw w<32)∧(0≤K4 rn fm rw w∧K4 rn fm rw w<32)∧(0≤K2 rn fm rw w∧K2 rn fm rw w<32)∧Zaj rn fm rw w=.ofNat 0∧Zeh rn fm rw w=Qc fm w:=by
 rcases hf with rfl|rfl|rfl|rfl|rfl
 ·obtain⟨e0,e1,e2,e3,e4,e5⟩:=Zvh rn rw w h
  rw[e0,e1,e2,e3,e4,e5,Yi0 w h,J3]
  exact⟨rfl,by omega,by omega,by omega,rfl,rfl⟩
 ·obtain⟨e0,e1,e2,e3,e4,e5⟩:=Zyi rn rw w h
  rw[e0,e1,e2,e3,e4,e5,Yhm w h,J3]
  exact⟨rfl,by omega,by omega,by omega,rfl,rfl⟩
 ·obtain⟨e0,e1,e2,e3,e4,e5⟩:=Zqa rn rw w h
  rw[e0,e1,e2,e3,e4,e5,Yhk w h,J3]
  exact⟨rfl,by omega,by omega,by omega,rfl,rfl⟩
 ·obtain⟨e0,e1,e2,e3,e4,e5⟩:=Zwf rn rw w h
  rw[e0,e1,e2,e3,e4,e5,Yn8 w h,J3]
  exact⟨rfl,by omega,by omega,by omega,rfl,rfl⟩
 ·obtain⟨e0,e1,e2,e3,e4,e5⟩:=Zvx rn rw w h
  rw[e0,e1,e2,e3,e4,e5,Yfi w h,J3]
  exact⟨rfl,by omega,by omega,by omega,rfl,rfl⟩
theorem Yma(rn:List UInt8)(rw:Int){fm w W:Int}(hf:fm=.ofNat 1∨fm=.ofNat 4∨fm=.ofNat 5∨fm=.ofNat 6∨fm=.ofNat 7)(h:0≤w∧w<4294967296)(hW:0≤W∧W<4294967296)(ha:∀ i,(J4 fm).testBit i=false→(bw W).testBit i=(bw w).testBit i):K5 rn fm rw W=K5 rn fm rw w∧K4 rn fm rw W=K4 rn fm rw w∧K2 rn fm rw W=K2 rn fm rw w:=by
 have f:∀ t,Zc4 t 5 (J4 fm)=true→W / ((2 ^ t:Nat):Int) % ((2 ^ 5:Nat):Int)=w / ((2 ^ t:Nat):Int) % ((2 ^ 5:Nat):Int):=fun t ht=>Xd hW h t 5 fun i h3 h4=>ha i (Qi ht h3 h4)
 rcases hf with rfl|rfl|rfl|rfl|rfl
 ·obtain⟨_,e1,e2,e3,_⟩:=Zvh rn rw w h
  obtain⟨_,g1,g2,g3,_⟩:=Zvh rn rw W hW
  rw[e1,e2,e3,g1,g2,g3]
  exact⟨f 7 (by decide +kernel),f 15 (by decide +kernel),rfl⟩
 ·obtain⟨_,e1,e2,e3,_⟩:=Zyi rn rw w h
  obtain⟨_,g1,g2,g3,_⟩:=Zyi rn rw W hW
  rw[e1,e2,e3,g1,g2,g3]
  exact⟨rfl,f 15 (by decide +kernel),f 20 (by decide +kernel)⟩
 ·obtain⟨_,e1,e2,e3,_⟩:=Zqa rn rw w h
  obtain⟨_,g1,g2,g3,_⟩:=Zqa rn rw W hW
  rw[e1,e2,e3,g1,g2,g3]
  exact⟨rfl,f 15 (by decide +kernel),f 20 (by decide +kernel)⟩
 ·obtain⟨_,e1,e2,e3,_⟩:=Zwf rn rw w h
  obtain⟨_,g1,g2,g3,_⟩:=Zwf rn rw W hW
  rw[e1,e2,e3,g1,g2,g3]
  exact⟨f 7 (by decide +kernel),rfl,rfl⟩
 ·obtain⟨_,e1,e2,e3,_⟩:=Zvx rn rw w h
  obtain⟨_,g1,g2,g3,_⟩:=Zvx rn rw W hW
  rw[e1,e2,e3,g1,g2,g3]
  exact⟨f 7 (by decide +kernel),rfl,rfl⟩
def Z16(rw:Int):Int:=Za .u32 (Ze .u32 rw (.ofNat 127))
def Yjx(x:Zc6)(i:Nat):Bool:=match Xb[i]? with
 |some y=>!(Zd (Z16 y.2.2) (Z16 x.2.2))||(Zzy x.2.1&&(Zzy y.2.1&&[12,13,14].any fun b=>(bw y.2.2).testBit b != (bw x.2.2).testBit b))
 |none=>true
def Y9u(j:Nat):Bool:=match Xb[j]? with
 |none=>true
 |some x=>!(Zki x.2.1)||(Zvr x.1&&(leq (Zr9 x.1) x.1&&(Zd (Zi1 x.1) x.2.1&&(Zd (Zqw x.1) x.2.2&&(!(Zd (Zjq x.2.1) (Zka x.2.1))&&(!(Zd (Zj0 x.2.1) (.ofNat 0))&&(Nat.beq (bw x.2.2&&&J4 x.2.1) 0&&(List.range j).all (Yjx x))))))))
theorem Yiz:(List.range 64).all Y9u=true:=by kernel_rfl
theorem Zzg{x:Zc6}{a b c n:Int}{nm:List UInt8}{d:Int}(hf:Zki x.2.1=true)(ha:0≤a∧a<32)(hb:0≤b∧b<32)(hc:0≤c∧c<32)(i:Nat)(h:i<7∨(Zzy x.2.1=true∧12≤i∧i<15)):(bw (Xp x.1 x.2.1 x.2.2 nm a b c d n)).testBit i=(bw x.2.2).testBit i:=by
 have k7:∀ i,i<15→(i<7∨12≤i)→((31<<<7) % 2 ^ 32).testBit i=false∧((31<<<15) % 2 ^ 32).testBit i=false∧((31<<<20) % 2 ^ 32).testBit i=false:=by decide +kernel
 have hi:i<15∧(i<7∨12≤i):=by omega
 obtain⟨q1,q2,q3⟩:=k7 i hi.1 hi.2
 have hs:(J4 x.2.1).testBit i=false:=by
  rcases h with h|⟨h,h1,h2⟩
  ·have e:∀ i,i<7→(J4 (.ofNat 1)).testBit i=false∧(J4 (.ofNat 4)).testBit i=false∧(J4 (.ofNat 5)).testBit i=false∧(J4 (.ofNat 6)).testBit i=false∧(J4 (.ofNat 7)).testBit i=false:=by decide +kernel
   rcases Zj8 hf with g|g|g|g|g <;> rw[g]
   ·exact(e i h).1
   ·exact(e i h).2.1
   ·exact(e i h).2.2.1
   ·exact(e i h).2.2.2.1
   ·exact(e i h).2.2.2.2
  ·have e:∀ i,i<15→12≤i→(J4 (.ofNat 1)).testBit i=false∧(J4 (.ofNat 4)).testBit i=false∧(J4 (.ofNat 5)).testBit i=false:=by decide +kernel
   rcases Zz7 h with g|g|g <;> rw[g]
   ·exact(e i h2 h1).1
   ·exact(e i h2 h1).2.1
   ·exact(e i h2 h1).2.2
 exact(Yj4 (rn':=x.1) (nm':=nm) (d':=d) (n:=n) (Zj8 hf) hs).1.trans (Yl7 ha hb hc q1 q2 q3)
theorem Y7c{W rw:Int}(h:∀ i,i<7→(bw W).testBit i=(bw rw).testBit i):Z16 W=Z16 rw:=by
 unfold Z16
 rw[Zg2,Zg2,Zp7,Zp7]
 congr 1
 apply Nat.eq_of_testBit_eq
 intro i
 rw[Nat.testBit_and,Nat.testBit_and]
 by_cases hi:i<7
 ·rw[show(bitsOf .u32 W).testBit i=(bitsOf .u32 rw).testBit i from h i hi]
 ·have:(bitsOf .u32 (.ofNat 127)).testBit i=false:=by
   rw[show bitsOf .u32 (.ofNat 127)=127 from rfl]
   exact Nat.testBit_lt_two_pow (Nat.lt_of_lt_of_le (show 127<2 ^ 7 by decide) (Nat.pow_le_pow_right (by decide) (by omega)))
  rw[this,Bool.and_false,Bool.and_false]
theorem Yvd:((List.range 64).all fun j=>match Xb[j]? with | some x=>Zd (Zi1 x.1) x.2.1 | none=>true)=true:=by kernel_rfl
theorem Yoi{w:Int}{x:Zc6}(h:Xb.find? (Qd w)=some x):rvDN w=Zdj x.1 x.2.1 x.2.2 w∧rvDA w=K5 x.1 x.2.1 x.2.2 w∧rvDB w=K4 x.1 x.2.1 x.2.2 w∧rvDC w=K2 x.1 x.2.1 x.2.2 w∧rvDD w=Zaj x.1 x.2.1 x.2.2 w∧rvDE w=.ofNat 0:=by
 have e:rvO w=Zt9 w (some x):=by unfold rvO;rw[h]
 unfold rvDN rvDA rvDB rvDC rvDD rvDE
 rw[e]
 exact⟨rfl,rfl,rfl,rfl,rfl,rfl⟩
theorem Ztt(rn:List UInt8)(fm rw:Int)(nm:List UInt8)(a b c d n:Int):0≤Xp rn fm rw nm a b c d n∧Xp rn fm rw nm a b c d n<4294967296:=by
 rw[Zjz,Z1]
 omega
theorem Zzr(rn:List UInt8)(fm rw w:Int):Zdj rn fm rw w=rn:=by
 have e:=Jr rn fm rw w
 unfold V2 at e
 simp only[W9,Zas,J7,Ym] at e
 rcases Ve e with⟨_,e⟩|⟨_,e⟩ <;> rcases Ve e with⟨_,e⟩|⟨_,e⟩ <;> rcases Ve e with⟨_,e⟩|⟨_,e⟩ <;> (simp only[Option.some.injEq,AV.agg.injEq,List.cons.injEq,AV.str.injEq] at e;exact e.1.symm)
theorem Kv{p q i:Nat}(h:p&&&q=0)(hi:q.testBit i=true):p.testBit i=false:=by
 have:(p&&&q).testBit i=false:=by rw[h,Nat.zero_testBit]
 rw[Nat.testBit_and,hi,Bool.and_true] at this
 exact this
theorem Ywx{rn:List UInt8}{fm rw w:Int}(hf:fm=.ofNat 1∨fm=.ofNat 4∨fm=.ofNat 5∨fm=.ofNat 6∨fm=.ofNat 7)(hw:0≤w∧w<4294967296)(hr:bw rw&&&J4 fm=0){i:Nat}(hi:(J4 fm).testBit i=true):(bw (Zfc rw (K5 rn fm rw w) (K4 rn fm rw w) (K2 rn fm rw w))).testBit i=false:=by
 obtain⟨_,ra,rb,rc,_⟩:=reads rn rw hf hw
 have h:=Kv hr hi
 rcases hf with rfl|rfl|rfl|rfl|rfl
 ·obtain⟨_,_,_,e3,_⟩:=Zvh rn rw w hw
  exact Zd0 h (.inr ⟨ra,Kv (by decide +kernel) hi⟩) (.inr ⟨rb,Kv (by decide +kernel) hi⟩) (.inl e3)
 ·obtain⟨_,e1,_,_,_⟩:=Zyi rn rw w hw
  exact Zd0 h (.inl e1) (.inr ⟨rb,Kv (by decide +kernel) hi⟩) (.inr ⟨rc,Kv (by decide +kernel) hi⟩)
 ·obtain⟨_,e1,_,_,_⟩:=Zqa rn rw w hw
  exact Zd0 h (.inl e1) (.inr ⟨rb,Kv (by decide +kernel) hi⟩) (.inr ⟨rc,Kv (by decide +kernel) hi⟩)
 ·obtain⟨_,_,e2,e3,_⟩:=Zwf rn rw w hw
  exact Zd0 h (.inr ⟨ra,Kv (by decide +kernel) hi⟩) (.inl e2) (.inl e3)
 ·obtain⟨_,_,e2,e3,_⟩:=Zvx rn rw w hw
  exact Zd0 h (.inr ⟨ra,Kv (by decide +kernel) hi⟩) (.inl e2) (.inl e3)
theorem Ytv{w n:Int}(hw:0≤w∧w<4294967296)(h0:Zd (rvDE w) (.ofNat 0)=true)(hG:Zki (Zi1 (rvDN w))=true)(he:Zd (rvEE (rvDN w) (rvDA w) (rvDB w) (rvDC w) (rvDD w) n) (.ofNat 0)=true) :
  ∃ W,rvEW (rvDN w) (rvDA w) (rvDB w) (rvDC w) (rvDD w) n=W∧(0≤W∧W<4294967296)∧rvDN W=rvDN w∧rvDA W=rvDA w∧rvDB W=rvDB w∧rvDC W=rvDC w∧rvDD W=rvDD w∧Zd (rvDE W) (.ofNat 0)=true:=by
 cases hf:Xb.find? (Qd w) with
 |none=>
  have e:rvDE w=.ofNat 22:=by
   unfold rvDE rvO
   rw[hf];rfl
  rw[e] at h0;cases h0
 |some x=>
  obtain⟨r0,r1,r2,r3,r4,_⟩:=Yoi hf
  obtain⟨j,hj,ej⟩:=List.getElem_of_mem (List.mem_of_find?_eq_some hf)
  have hx:Xb[j]?=some x:=by rw[List.getElem?_eq_getElem hj,ej]
  have hj64:j∈List.range 64:=List.mem_range.2 (by rw[←Z06];exact hj)
  have hF:=List.all_eq_true.1 Yvd j hj64
  rw[hx] at hF
  simp only[Ya,decide_eq_true_eq] at hF
  rw[r0,Zzr,hF] at hG
  have hfm:=Zj8 hG
  have hc:=List.all_eq_true.1 Yiz j hj64
  unfold Y9u at hc
  rw[hx] at hc
  simp only[hG,Bool.not_true,Bool.false_or,Bool.and_eq_true,Bool.not_eq_true',Q6,Ya,decide_eq_true_eq,Nat.beq_eq,decide_eq_false_iff_not] at hc
  obtain⟨c1,c2,c3,c4,c5,c6,c7,c8⟩:=hc
  obtain⟨_,ra,rb,rc,rd,ri⟩:=reads x.1 x.2.2 hfm hw
  rw[r0,Zzr,r1,r2,r3,r4] at he ⊢
  unfold rvEE at he
  rw[c1,c2,c3,c4,cond_true,Ya,decide_eq_true_eq] at he
  have hN:=Y10 (by rw[Ya,decide_eq_false_iff_not];exact c5) (by rw[Ya,decide_eq_false_iff_not];exact c6) he
  have hit:=List.find?_some hf
  unfold Qd at hit
  rw[Bool.and_eq_true,Ya,Ya,decide_eq_true_eq,decide_eq_true_eq] at hit
  refine⟨Xp x.1 x.2.1 x.2.2 x.1 (K5 x.1 x.2.1 x.2.2 w) (K4 x.1 x.2.1 x.2.2 w) (K2 x.1 x.2.1 x.2.2 w) (Zaj x.1 x.2.1 x.2.2 w) n,?_,Ztt ..,?_⟩
  ·unfold rvEW
   rw[c2,c3,c4]
  have hW:=Ztt x.1 x.2.1 x.2.2 x.1 (K5 x.1 x.2.1 x.2.2 w) (K4 x.1 x.2.1 x.2.2 w) (K2 x.1 x.2.1 x.2.2 w) (Zaj x.1 x.2.1 x.2.2 w) n
  have lo:=Zzg (x:=x) (nm:=x.1) (d:=Zaj x.1 x.2.1 x.2.2 w) (n:=n) hG ra rb rc
  have agr:∀ i,(J4 x.2.1).testBit i=false→(bw (Xp x.1 x.2.1 x.2.2 x.1 (K5 x.1 x.2.1 x.2.2 w) (K4 x.1 x.2.1 x.2.2 w) (K2 x.1 x.2.1 x.2.2 w) (Zaj x.1 x.2.1 x.2.2 w) n)).testBit i=(bw w).testBit i:=fun i hi=>by
   have:=Yj4 (rn:=x.1) (nm:=x.1) (d:=Zaj x.1 x.2.1 x.2.2 w) (m:=n) (rn':=x.1) (nm':=Zdj x.1 x.2.1 x.2.2 w) (d':=Zaj x.1 x.2.1 x.2.2 w) (n:=Zeh x.1 x.2.1 x.2.2 w) (rw:=x.2.2) (a:=K5 x.1 x.2.1 x.2.2 w) (b:=K4 x.1 x.2.1 x.2.2 w) (c:=K2 x.1 x.2.1 x.2.2 w) hfm hi
   rw[hit.2] at this
   exact this.1.trans this.2.symm
  have inn:∀ i,(J4 x.2.1).testBit i=true→(bw (Xp x.1 x.2.1 x.2.2 x.1 (K5 x.1 x.2.1 x.2.2 w) (K4 x.1 x.2.1 x.2.2 w) (K2 x.1 x.2.1 x.2.2 w) (Zaj x.1 x.2.1 x.2.2 w) n)).testBit i=(bw (Jx x.2.1 n)).testBit i:=fun i hi=>by
   rw[Zjz,Ze0,Ywx hfm hw c7 hi,Bool.false_or]
  have num:=Yua hfm hW hN inn
  obtain⟨ga,gb,gc⟩:=Yma x.1 x.2.2 hfm hw hW agr
  obtain⟨_,_,_,_,gd,gi⟩:=reads x.1 x.2.2 hfm hW
  have gd':=gd.trans rd.symm
  have hop:=Y7c fun i hi=>lo i (.inl hi)
  generalize hWe:Xp x.1 x.2.1 x.2.2 x.1 (K5 x.1 x.2.1 x.2.2 w) (K4 x.1 x.2.1 x.2.2 w) (K2 x.1 x.2.1 x.2.2 w) (Zaj x.1 x.2.1 x.2.2 w) n=W at *
  have hh:Qd W x=true:=by
   unfold Qd
   rw[Zzr,ga,gb,gc,gd',gi,num,hWe,Bool.and_eq_true,Ya,Ya,decide_eq_true_eq,decide_eq_true_eq]
   exact⟨hop.symm,rfl⟩
  have hF2:=Zyd hx hh fun i hi y hy=>by
   have h:=List.all_eq_true.1 c8 i (List.mem_range.2 hi)
   unfold Yjx at h
   rw[hy] at h
   simp only[Bool.or_eq_true,Bool.and_eq_true,Bool.not_eq_true'] at h
   cases hb:Qd W y with
   |false=>rfl
   |true=>
    exfalso
    unfold Qd at hb
    rw[Bool.and_eq_true,Ya,Ya,decide_eq_true_eq,decide_eq_true_eq] at hb
    rcases h with h|⟨f1,f2,h⟩
    ·rw[Ya,decide_eq_false_iff_not] at h
     exact h (hb.1.trans hop)
    ·obtain⟨b,hm,hne⟩:=List.any_eq_true.1 h
     have hr:12≤b∧b<15:=by
      simp only[List.mem_cons,List.not_mem_nil,or_false] at hm
      omega
     have hfy:Zki y.2.1=true:=by
      unfold Zki
      rcases Zz7 f2 with g|g|g <;> rw[g] <;> rfl
     obtain⟨_,ya,yb,yc,_,_⟩:=reads y.1 y.2.2 (Zj8 hfy) hW
     have l1:=Zzg (x:=y) (nm:=Zdj y.1 y.2.1 y.2.2 W) (d:=Zaj y.1 y.2.1 y.2.2 W) (n:=Zeh y.1 y.2.1 y.2.2 W) hfy ya yb yc b (.inr ⟨f2,hr⟩)
     rw[hb.2,lo b (.inr ⟨f1,hr⟩)] at l1
     rw[l1] at hne
     simp at hne
  obtain⟨s0,s1,s2,s3,s4,s5⟩:=Yoi hF2
  exact⟨s0.trans (Zzr ..),s1.trans ga,s2.trans gb,s3.trans gc,s4.trans gd',by rw[s5];rfl⟩
end
end Go.Proofs.YtaakhjmfojoodaaGreatDoor
