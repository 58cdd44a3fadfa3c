/- compact's plain law: an instruction whose number is put anew is decoded as the same one; number by number, by the kernel. -/
import Derived.Test.YtaakhjmfojoodaaGreatDoorCoDec
namespace Go.Proofs.YtaakhjmfojoodaaGreatDoor
open Go Go.Vai
noncomputable section
set_option maxRecDepth 100000
def Zem:List (List UInt8):=[[99,46,97,100,100,105,52,115,112,110],[99,46,108,119],[99,46,108,100],[99,46,115,119],[99,46,115,100],[99,46,110,111,112],[99,46,97,100,100,105],[99,46,97,100,100,105,119],[99,46,108,105],[99,46,97,100,100,105,49,54,115,112],[99,46,108,117,105],[99,46,115,114,108,105],[99,46,115,114,97,105],[99,46,97,110,100,105],[99,46,115,117,98],[99,46,120,111,114],[99,46,111,114],[99,46,97,110,100],[99,46,115,117,98,119],[99,46,97,100,100,119],[99,46,106],[99,46,98,101,113,122],[99,46,98,110,101,122],[99,46,115,108,108,105],[99,46,108,119,115,112],[99,46,108,100,115,112],[99,46,106,114],[99,46,106,97,108,114],[99,46,109,118],[99,46,97,100,100],[99,46,101,98,114,101,97,107],[99,46,115,119,115,112],[99,46,115,100,115,112]]
def Yb:Option (List AV)→Bool
 |some (.str nm::_)=>Zem.any fun m=>leq m nm
 |none=>true
 |_=>false
theorem Yaw(w:Int):∀ a∈Vt,Yb (a w)=true:=by
 intro a ha
 simp only[Vt,List.mem_cons,List.not_mem_nil,or_false] at ha
 rcases ha with rfl|rfl|rfl|rfl|rfl|rfl|rfl|rfl|rfl|rfl|rfl|rfl|rfl|rfl|rfl|rfl|rfl|rfl|rfl|rfl|rfl|rfl|rfl|rfl|rfl|rfl|rfl|rfl|rfl|rfl|rfl|rfl|rfl
 ·unfold Yai
  repeat (first|rfl|apply Zx (p:=Yb)|apply Yt (p:=Yb) rfl|exact(Zu (p:=Yb) rfl rfl).1|exact(Zu (p:=Yb) rfl rfl).2)
 ·unfold Z95
  repeat (first|rfl|apply Zx (p:=Yb)|apply Yt (p:=Yb) rfl|exact(Zu (p:=Yb) rfl rfl).1|exact(Zu (p:=Yb) rfl rfl).2)
 ·unfold Yer
  repeat (first|rfl|apply Zx (p:=Yb)|apply Yt (p:=Yb) rfl|exact(Zu (p:=Yb) rfl rfl).1|exact(Zu (p:=Yb) rfl rfl).2)
 ·unfold Ycx
  repeat (first|rfl|apply Zx (p:=Yb)|apply Yt (p:=Yb) rfl|exact(Zu (p:=Yb) rfl rfl).1|exact(Zu (p:=Yb) rfl rfl).2)
 ·unfold Yet
  repeat (first|rfl|apply Zx (p:=Yb)|apply Yt (p:=Yb) rfl|exact(Zu (p:=Yb) rfl rfl).1|exact(Zu (p:=Yb) rfl rfl).2)
 ·unfold Ycz
  repeat (first|rfl|apply Zx (p:=Yb)|apply Yt (p:=Yb) rfl|exact(Zu (p:=Yb) rfl rfl).1|exact(Zu (p:=Yb) rfl rfl).2)
 ·unfold Yar
  repeat (first|rfl|apply Zx (p:=Yb)|apply Yt (p:=Yb) rfl|exact(Zu (p:=Yb) rfl rfl).1|exact(Zu (p:=Yb) rfl rfl).2)
 ·unfold Yb9
  repeat (first|rfl|apply Zx (p:=Yb)|apply Yt (p:=Yb) rfl|exact(Zu (p:=Yb) rfl rfl).1|exact(Zu (p:=Yb) rfl rfl).2)
 ·unfold Yag
  repeat (first|rfl|apply Zx (p:=Yb)|apply Yt (p:=Yb) rfl|exact(Zu (p:=Yb) rfl rfl).1|exact(Zu (p:=Yb) rfl rfl).2)
 ·unfold Yao
  repeat (first|rfl|apply Zx (p:=Yb)|apply Yt (p:=Yb) rfl|exact(Zu (p:=Yb) rfl rfl).1|exact(Zu (p:=Yb) rfl rfl).2)
 ·unfold Zth
  repeat (first|rfl|apply Zx (p:=Yb)|apply Yt (p:=Yb) rfl|exact(Zu (p:=Yb) rfl rfl).1|exact(Zu (p:=Yb) rfl rfl).2)
 ·unfold Zs1
  repeat (first|rfl|apply Zx (p:=Yb)|apply Yt (p:=Yb) rfl|exact(Zu (p:=Yb) rfl rfl).1|exact(Zu (p:=Yb) rfl rfl).2)
 ·unfold Ztk
  repeat (first|rfl|apply Zx (p:=Yb)|apply Yt (p:=Yb) rfl|exact(Zu (p:=Yb) rfl rfl).1|exact(Zu (p:=Yb) rfl rfl).2)
 ·unfold Zug
  repeat (first|rfl|apply Zx (p:=Yb)|apply Yt (p:=Yb) rfl|exact(Zu (p:=Yb) rfl rfl).1|exact(Zu (p:=Yb) rfl rfl).2)
 ·unfold Zsh
  repeat (first|rfl|apply Zx (p:=Yb)|apply Yt (p:=Yb) rfl|exact(Zu (p:=Yb) rfl rfl).1|exact(Zu (p:=Yb) rfl rfl).2)
 ·unfold Zsn
  repeat (first|rfl|apply Zx (p:=Yb)|apply Yt (p:=Yb) rfl|exact(Zu (p:=Yb) rfl rfl).1|exact(Zu (p:=Yb) rfl rfl).2)
 ·unfold Zts
  repeat (first|rfl|apply Zx (p:=Yb)|apply Yt (p:=Yb) rfl|exact(Zu (p:=Yb) rfl rfl).1|exact(Zu (p:=Yb) rfl rfl).2)
 ·unfold Ztw
  repeat (first|rfl|apply Zx (p:=Yb)|apply Yt (p:=Yb) rfl|exact(Zu (p:=Yb) rfl rfl).1|exact(Zu (p:=Yb) rfl rfl).2)
 ·unfold Ztz
  repeat (first|rfl|apply Zx (p:=Yb)|apply Yt (p:=Yb) rfl|exact(Zu (p:=Yb) rfl rfl).1|exact(Zu (p:=Yb) rfl rfl).2)
 ·unfold Zuh
  repeat (first|rfl|apply Zx (p:=Yb)|apply Yt (p:=Yb) rfl|exact(Zu (p:=Yb) rfl rfl).1|exact(Zu (p:=Yb) rfl rfl).2)
 ·unfold Zs7
  repeat (first|rfl|apply Zx (p:=Yb)|apply Yt (p:=Yb) rfl|exact(Zu (p:=Yb) rfl rfl).1|exact(Zu (p:=Yb) rfl rfl).2)
 ·unfold Zsv
  repeat (first|rfl|apply Zx (p:=Yb)|apply Yt (p:=Yb) rfl|exact(Zu (p:=Yb) rfl rfl).1|exact(Zu (p:=Yb) rfl rfl).2)
 ·unfold Ztc
  repeat (first|rfl|apply Zx (p:=Yb)|apply Yt (p:=Yb) rfl|exact(Zu (p:=Yb) rfl rfl).1|exact(Zu (p:=Yb) rfl rfl).2)
 ·unfold Ztl
  repeat (first|rfl|apply Zx (p:=Yb)|apply Yt (p:=Yb) rfl|exact(Zu (p:=Yb) rfl rfl).1|exact(Zu (p:=Yb) rfl rfl).2)
 ·unfold Zud
  repeat (first|rfl|apply Zx (p:=Yb)|apply Yt (p:=Yb) rfl|exact(Zu (p:=Yb) rfl rfl).1|exact(Zu (p:=Yb) rfl rfl).2)
 ·unfold Zst
  repeat (first|rfl|apply Zx (p:=Yb)|apply Yt (p:=Yb) rfl|exact(Zu (p:=Yb) rfl rfl).1|exact(Zu (p:=Yb) rfl rfl).2)
 ·unfold Zt8
  repeat (first|rfl|apply Zx (p:=Yb)|apply Yt (p:=Yb) rfl|exact(Zu (p:=Yb) rfl rfl).1|exact(Zu (p:=Yb) rfl rfl).2)
 ·unfold Zs2
  repeat (first|rfl|apply Zx (p:=Yb)|apply Yt (p:=Yb) rfl|exact(Zu (p:=Yb) rfl rfl).1|exact(Zu (p:=Yb) rfl rfl).2)
 ·unfold Zsr
  repeat (first|rfl|apply Zx (p:=Yb)|apply Yt (p:=Yb) rfl|exact(Zu (p:=Yb) rfl rfl).1|exact(Zu (p:=Yb) rfl rfl).2)
 ·unfold Zt1
  repeat (first|rfl|apply Zx (p:=Yb)|apply Yt (p:=Yb) rfl|exact(Zu (p:=Yb) rfl rfl).1|exact(Zu (p:=Yb) rfl rfl).2)
 ·unfold Ztg
  repeat (first|rfl|apply Zx (p:=Yb)|apply Yt (p:=Yb) rfl|exact(Zu (p:=Yb) rfl rfl).1|exact(Zu (p:=Yb) rfl rfl).2)
 ·unfold Zs6
  repeat (first|rfl|apply Zx (p:=Yb)|apply Yt (p:=Yb) rfl|exact(Zu (p:=Yb) rfl rfl).1|exact(Zu (p:=Yb) rfl rfl).2)
 ·unfold Zs8
  repeat (first|rfl|apply Zx (p:=Yb)|apply Yt (p:=Yb) rfl|exact(Zu (p:=Yb) rfl rfl).1|exact(Zu (p:=Yb) rfl rfl).2)
theorem Y1c{w:Int}(h0:Zd (coDE w) (.ofNat 0)=true):∃ l,W7 w Vt=some l∧l=[.str (coDN w),.int .i64 (coDA w),.int .i64 (coDB w),.int .i64 (coDC w),.int .i64 (coDD w),.int .i64 (coDI w)]∧(Zem.any fun m=>leq m (coDN w))=true:=by
 cases hf:W7 w Vt with
 |none=>
  have e:coDE w=.ofNat 22:=by
   unfold coDE coO
   rw[hf];rfl
  rw[e] at h0;cases h0
 |some l=>
  obtain⟨a,ha,e⟩:=Za8 hf
  have hs:=Zan w a ha
  have hn:=Yaw w a ha
  rw[e] at hs hn
  obtain⟨nm,A,B,C,D,I,rfl⟩:=Zlz hs
  have e2:coO w=Zue (some [.str nm,.int .i64 A,.int .i64 B,.int .i64 C,.int .i64 D,.int .i64 I]):=by unfold coO;rw[hf]
  have q0:coDN w=nm:=by unfold coDN;rw[e2];rfl
  have q1:coDA w=A:=by unfold coDA;rw[e2];rfl
  have q2:coDB w=B:=by unfold coDB;rw[e2];rfl
  have q3:coDC w=C:=by unfold coDC;rw[e2];rfl
  have q4:coDD w=D:=by unfold coDD;rw[e2];rfl
  have q5:coDI w=I:=by unfold coDI;rw[e2];rfl
  rw[q0,q1,q2,q3,q4,q5]
  exact⟨_,rfl,rfl,hn⟩
def Qu(n:Nat)(f:Nat→Bool):Bool:=Nat.rec (motive:=fun _=>Bool) true (fun i ih=>bif f i then ih else false) n
theorem Zxw{f:Nat→Bool}:∀{n:Nat},Qu n f=true→∀{i:Nat},i<n→f i=true
 |0,_,i,hi=>by omega
 |n+1,h,i,hi=>by
  have h:(bif f n then Qu n f else false)=true:=h
  cases hf:f n with
  |false=>rw[hf] at h;cases h
  |true=>
   rw[hf] at h
   by_cases e:i=n
   ·rw[e];exact hf
   ·exact Zxw h (by omega)
def okL(nm:List UInt8)(B:Int):Option (List AV)→Bool
 |some [.str n,.int _ a,.int _ b,.int _ c,.int _ d,.int _ _]=>leq n nm&&(Zd a (.ofNat 0)&&(Zd b B&&(Zd c (.ofNat 0)&&Zd d (.ofNat 0))))
 |_=>false
def okC(nm:List UInt8)(B W:Int):Bool:=!(Z2 W (.ofNat 0))&&(Z2 W (.ofNat 65536)&&(!(Zd (Za .u8 (Ze .u8 (Za .u8 W) (.ofNat 3))) (.ofNat 3))&&okL nm B (W7 W Vt)))
theorem Z2z{nm:List UInt8}{B W:Int}(h:okC nm B W=true):(0≤W∧W<65536)∧Zd (Za .u8 (Ze .u8 (Za .u8 W) (.ofNat 3))) (.ofNat 3)=false∧coDN W=nm∧coDA W=.ofNat 0∧coDB W=B∧coDC W=.ofNat 0∧coDD W=.ofNat 0∧Zd (coDE W) (.ofNat 0)=true:=by
 unfold okC at h
 simp only[Bool.and_eq_true,Bool.not_eq_true'] at h
 obtain⟨h1,h2,h3,h4⟩:=h
 rw[Y2,decide_eq_false_iff_not] at h1
 rw[Y2,decide_eq_true_eq] at h2
 refine⟨⟨Int.not_lt.1 h1,h2⟩,h3,?_⟩
 cases hf:W7 W Vt with
 |none=>rw[hf] at h4;cases h4
 |some l=>
  obtain⟨a,ha,e⟩:=Za8 hf
  have hs:=Zan W a ha
  rw[e] at hs
  obtain⟨n,A,B2,C,D,I,rfl⟩:=Zlz hs
  rw[hf] at h4
  simp only[okL,Bool.and_eq_true,Q6,Ya,decide_eq_true_eq] at h4
  obtain⟨rfl,rfl,rfl,rfl,rfl⟩:=h4
  have e2:coO W=Zue (some [.str n,.int .i64 (.ofNat 0),.int .i64 B2,.int .i64 (.ofNat 0),.int .i64 (.ofNat 0),.int .i64 I]):=by unfold coO;rw[hf]
  unfold coDN coDA coDB coDC coDD coDE
  rw[e2]
  exact⟨rfl,rfl,rfl,rfl,rfl,rfl⟩
theorem bcE{b:Bool}{x y:Option (Int×Option (List Int))}(h:Zd ((bc b x y).getD (0,none)).1 (.ofNat 0)=true)(hx:Zd (x.getD (0,none)).1 (.ofNat 0)=false):b=false∧Zd (y.getD (0,none)).1 (.ofNat 0)=true:=by
 cases b
 ·exact⟨rfl,h⟩
 ·have h:Zd (x.getD (0,none)).1 (.ofNat 0)=true:=h
  rw[hx] at h;cases h
theorem Y9j{b:Bool}{x y:Option (Int×Option (List Int))}(h:Zd ((bc b x y).getD (0,none)).1 (.ofNat 0)=true)(hy:Zd (y.getD (0,none)).1 (.ofNat 0)=false):b=true∧Zd (x.getD (0,none)).1 (.ofNat 0)=true:=by
 cases b
 ·have h:Zd (y.getD (0,none)).1 (.ofNat 0)=true:=h
  rw[hy] at h;cases h
 ·exact⟨rfl,h⟩
theorem Zqt{x:Int}(h:(!(Zd x (.ofNat 0)))=false):x=.ofNat 0:=by
 rw[Bool.not_eq_false',Ya,decide_eq_true_eq] at h
 exact h
theorem ltN{x y:Int}(h:Z2 x y=false):y≤x:=by
 rw[Y2,decide_eq_false_iff_not] at h
 omega
def Yhu(X:Int):Bool:=bif Zd (Zhf (.ofNat 0) (.ofNat 0) (.ofNat 0) (.ofNat 0) X) (.ofNat 0) then okC [99,46,106] (.ofNat 0) (Zdg (.ofNat 0) X) else true
theorem Y1e:Qu 2047 (fun i=>Yhu (.ofNat i))=true:=by kernel_rfl
theorem Y4p:Qu 2048 (fun i=>Yhu (.negSucc i))=true:=by kernel_rfl
theorem Vw{f:Int→Bool}{p n:Nat}(hp:Qu p (fun i=>f (.ofNat i))=true)(hn:Qu n (fun i=>f (.negSucc i))=true){X:Int}(h1:.negSucc (n - 1)≤X)(h2:X≤.ofNat (p - 1))(hz:0<p∧0<n):f X=true:=by
 cases X with
 |ofNat i=>exact Zxw hp (show i<p by have:=Int.ofNat_le.1 h2;omega)
 |negSucc i=>
  have h3:(n - 1:Nat)≥i:=by
   rw[Int.negSucc_eq,Int.negSucc_eq] at h1
   omega
  exact Zxw hn (show i<n by omega)
theorem co_j{A B C D X:Int}(h:Zd (Zhf A B C D X) (.ofNat 0)=true):A=.ofNat 0∧B=.ofNat 0∧C=.ofNat 0∧D=.ofNat 0∧okC [99,46,106] B (Zdg B X)=true:=by
 have h0:=h
 unfold Zhf Zgq at h
 obtain⟨a,h⟩:=bcE h rfl
 obtain⟨b,h⟩:=bcE h rfl
 obtain⟨c,h⟩:=bcE h rfl
 obtain⟨d,h⟩:=bcE h rfl
 obtain⟨l,h⟩:=bcE h rfl
 obtain⟨u,h⟩:=bcE h rfl
 cases Zqt a;cases Zqt b;cases Zqt c;cases Zqt d
 refine⟨rfl,rfl,rfl,rfl,?_⟩
 have k:Yhu X=true:=Vw (f:=Yhu) Y1e Y4p (ltN l) (ltN u) (by decide)
 unfold Yhu at k
 rw[h0] at k
 exact k
def Y9(B X:Int):Bool:=bif Zd (Zai (.ofNat 0) B (.ofNat 0) (.ofNat 0) X) (.ofNat 0) then okC [99,46,98,101,113,122] B (Jo B X) else true
theorem Z1a:Qu 255 (fun i=>Y9 (.ofNat 8) (.ofNat i))=true:=by kernel_rfl
theorem Zyx:Qu 256 (fun i=>Y9 (.ofNat 8) (.negSucc i))=true:=by kernel_rfl
theorem Z1j:Qu 255 (fun i=>Y9 (.ofNat 9) (.ofNat i))=true:=by kernel_rfl
theorem Z1g:Qu 256 (fun i=>Y9 (.ofNat 9) (.negSucc i))=true:=by kernel_rfl
theorem Zwq:Qu 255 (fun i=>Y9 (.ofNat 10) (.ofNat i))=true:=by kernel_rfl
theorem Zxl:Qu 256 (fun i=>Y9 (.ofNat 10) (.negSucc i))=true:=by kernel_rfl
theorem Zxi:Qu 255 (fun i=>Y9 (.ofNat 11) (.ofNat i))=true:=by kernel_rfl
theorem Zwn:Qu 256 (fun i=>Y9 (.ofNat 11) (.negSucc i))=true:=by kernel_rfl
theorem Zv1:Qu 255 (fun i=>Y9 (.ofNat 12) (.ofNat i))=true:=by kernel_rfl
theorem Zv3:Qu 256 (fun i=>Y9 (.ofNat 12) (.negSucc i))=true:=by kernel_rfl
theorem Zu7:Qu 255 (fun i=>Y9 (.ofNat 13) (.ofNat i))=true:=by kernel_rfl
theorem Zwi:Qu 256 (fun i=>Y9 (.ofNat 13) (.negSucc i))=true:=by kernel_rfl
theorem Zxj:Qu 255 (fun i=>Y9 (.ofNat 14) (.ofNat i))=true:=by kernel_rfl
theorem Zvf:Qu 256 (fun i=>Y9 (.ofNat 14) (.negSucc i))=true:=by kernel_rfl
theorem Zxo:Qu 255 (fun i=>Y9 (.ofNat 15) (.ofNat i))=true:=by kernel_rfl
theorem Zx2:Qu 256 (fun i=>Y9 (.ofNat 15) (.negSucc i))=true:=by kernel_rfl
theorem Yxx{A B C D X:Int}(h:Zd (Zai A B C D X) (.ofNat 0)=true):A=.ofNat 0∧C=.ofNat 0∧D=.ofNat 0∧okC [99,46,98,101,113,122] B (Jo B X)=true:=by
 have h0:=h
 unfold Zai Zaq at h
 obtain⟨a,h⟩:=bcE h rfl
 obtain⟨b,h⟩:=Y9j h rfl
 obtain⟨b2,h⟩:=bcE h rfl
 obtain⟨c,h⟩:=bcE h rfl
 obtain⟨d,h⟩:=bcE h rfl
 obtain⟨l,h⟩:=bcE h rfl
 obtain⟨u,h⟩:=bcE h rfl
 cases Zqt a;cases Zqt c;cases Zqt d
 refine⟨rfl,rfl,rfl,?_⟩
 have l2:=ltN l
 have u2:=ltN u
 rw[Bool.not_eq_true'] at b
 have b:=ltN b
 rw[Bool.not_eq_false',Bool.not_eq_true'] at b2
 have b2:=ltN b2
 have k:Y9 B X=true:=by
  cases B with
  |negSucc i=>cases b
  |ofNat i=>
   have i1:=Int.ofNat_le.1 b
   have i2:=Int.ofNat_le.1 b2
   have:i=8∨i=9∨i=10∨i=11∨i=12∨i=13∨i=14∨i=15:=by omega
   rcases this with rfl|rfl|rfl|rfl|rfl|rfl|rfl|rfl
   ·exact Vw (f:=Y9 (.ofNat 8)) Z1a Zyx l2 u2 (by decide)
   ·exact Vw (f:=Y9 (.ofNat 9)) Z1j Z1g l2 u2 (by decide)
   ·exact Vw (f:=Y9 (.ofNat 10)) Zwq Zxl l2 u2 (by decide)
   ·exact Vw (f:=Y9 (.ofNat 11)) Zxi Zwn l2 u2 (by decide)
   ·exact Vw (f:=Y9 (.ofNat 12)) Zv1 Zv3 l2 u2 (by decide)
   ·exact Vw (f:=Y9 (.ofNat 13)) Zu7 Zwi l2 u2 (by decide)
   ·exact Vw (f:=Y9 (.ofNat 14)) Zxj Zvf l2 u2 (by decide)
   ·exact Vw (f:=Y9 (.ofNat 15)) Zxo Zx2 l2 u2 (by decide)
 unfold Y9 at k
 rw[h0] at k
 exact k
def Xa(B X:Int):Bool:=bif Zd (Zal (.ofNat 0) B (.ofNat 0) (.ofNat 0) X) (.ofNat 0) then okC [99,46,98,110,101,122] B (Jq B X) else true
theorem Z1c:Qu 255 (fun i=>Xa (.ofNat 8) (.ofNat i))=true:=by kernel_rfl
theorem Zyv:Qu 256 (fun i=>Xa (.ofNat 8) (.negSucc i))=true:=by kernel_rfl
theorem Zzt:Qu 255 (fun i=>Xa (.ofNat 9) (.ofNat i))=true:=by kernel_rfl
theorem Zyz:Qu 256 (fun i=>Xa (.ofNat 9) (.negSucc i))=true:=by kernel_rfl
theorem Zw0:Qu 255 (fun i=>Xa (.ofNat 10) (.ofNat i))=true:=by kernel_rfl
theorem Zx5:Qu 256 (fun i=>Xa (.ofNat 10) (.negSucc i))=true:=by kernel_rfl
theorem Zv0:Qu 255 (fun i=>Xa (.ofNat 11) (.ofNat i))=true:=by kernel_rfl
theorem Zya:Qu 256 (fun i=>Xa (.ofNat 11) (.negSucc i))=true:=by kernel_rfl
theorem Zu0:Qu 255 (fun i=>Xa (.ofNat 12) (.ofNat i))=true:=by kernel_rfl
theorem Zv5:Qu 256 (fun i=>Xa (.ofNat 12) (.negSucc i))=true:=by kernel_rfl
theorem Zwu:Qu 255 (fun i=>Xa (.ofNat 13) (.ofNat i))=true:=by kernel_rfl
theorem Zus:Qu 256 (fun i=>Xa (.ofNat 13) (.negSucc i))=true:=by kernel_rfl
theorem Zyj:Qu 255 (fun i=>Xa (.ofNat 14) (.ofNat i))=true:=by kernel_rfl
theorem Zun:Qu 256 (fun i=>Xa (.ofNat 14) (.negSucc i))=true:=by kernel_rfl
theorem Zvi:Qu 255 (fun i=>Xa (.ofNat 15) (.ofNat i))=true:=by kernel_rfl
theorem Zvj:Qu 256 (fun i=>Xa (.ofNat 15) (.negSucc i))=true:=by kernel_rfl
theorem Yvr{A B C D X:Int}(h:Zd (Zal A B C D X) (.ofNat 0)=true):A=.ofNat 0∧C=.ofNat 0∧D=.ofNat 0∧okC [99,46,98,110,101,122] B (Jq B X)=true:=by
 have h0:=h
 unfold Zal Zag at h
 obtain⟨a,h⟩:=bcE h rfl
 obtain⟨b,h⟩:=Y9j h rfl
 obtain⟨b2,h⟩:=bcE h rfl
 obtain⟨c,h⟩:=bcE h rfl
 obtain⟨d,h⟩:=bcE h rfl
 obtain⟨l,h⟩:=bcE h rfl
 obtain⟨u,h⟩:=bcE h rfl
 cases Zqt a;cases Zqt c;cases Zqt d
 refine⟨rfl,rfl,rfl,?_⟩
 have l2:=ltN l
 have u2:=ltN u
 rw[Bool.not_eq_true'] at b
 have b:=ltN b
 rw[Bool.not_eq_false',Bool.not_eq_true'] at b2
 have b2:=ltN b2
 have k:Xa B X=true:=by
  cases B with
  |negSucc i=>cases b
  |ofNat i=>
   have i1:=Int.ofNat_le.1 b
   have i2:=Int.ofNat_le.1 b2
   have:i=8∨i=9∨i=10∨i=11∨i=12∨i=13∨i=14∨i=15:=by omega
   rcases this with rfl|rfl|rfl|rfl|rfl|rfl|rfl|rfl
   ·exact Vw (f:=Xa (.ofNat 8)) Z1c Zyv l2 u2 (by decide)
   ·exact Vw (f:=Xa (.ofNat 9)) Zzt Zyz l2 u2 (by decide)
   ·exact Vw (f:=Xa (.ofNat 10)) Zw0 Zx5 l2 u2 (by decide)
   ·exact Vw (f:=Xa (.ofNat 11)) Zv0 Zya l2 u2 (by decide)
   ·exact Vw (f:=Xa (.ofNat 12)) Zu0 Zv5 l2 u2 (by decide)
   ·exact Vw (f:=Xa (.ofNat 13)) Zwu Zus l2 u2 (by decide)
   ·exact Vw (f:=Xa (.ofNat 14)) Zyj Zun l2 u2 (by decide)
   ·exact Vw (f:=Xa (.ofNat 15)) Zvi Zvj l2 u2 (by decide)
 unfold Xa at k
 rw[h0] at k
 exact k
theorem Yyu{w n:Int}(hG:coG (coDN w)=true)(he:Zd (coEE (coDN w) (coDA w) (coDB w) (coDC w) (coDD w) n) (.ofNat 0)=true) :
  ∃ W,coEW (coDN w) (coDA w) (coDB w) (coDC w) (coDD w) n=W∧(0≤W∧W<65536)∧Zd (Za .u8 (Ze .u8 (Za .u8 W) (.ofNat 3))) (.ofNat 3)=false∧coDN W=coDN w∧coDA W=coDA w∧coDB W=coDB w∧coDC W=coDC w∧coDD W=coDD w∧Zd (coDE W) (.ofNat 0)=true:=by
 generalize coDN w=nm at hG he ⊢
 generalize coDA w=A at he ⊢
 generalize coDB w=B at he ⊢
 generalize coDC w=C at he ⊢
 generalize coDD w=D at he ⊢
 unfold coG at hG
 simp only[Bool.or_eq_true,Q6,decide_eq_true_eq] at hG
 rcases hG with rfl|rfl|rfl
 ·obtain⟨rfl,rfl,rfl,rfl,k⟩:=co_j he
  obtain⟨k1,k2,k3,k4,k5,k6,k7,k8⟩:=Z2z k
  exact⟨_,rfl,k1,k2,k3,k4,k5,k6,k7,k8⟩
 ·obtain⟨rfl,rfl,rfl,k⟩:=Yxx he
  obtain⟨k1,k2,k3,k4,k5,k6,k7,k8⟩:=Z2z k
  exact⟨_,rfl,k1,k2,k3,k4,k5,k6,k7,k8⟩
 ·obtain⟨rfl,rfl,rfl,k⟩:=Yvr he
  obtain⟨k1,k2,k3,k4,k5,k6,k7,k8⟩:=Z2z k
  exact⟨_,rfl,k1,k2,k3,k4,k5,k6,k7,k8⟩
end
end Go.Proofs.YtaakhjmfojoodaaGreatDoor
