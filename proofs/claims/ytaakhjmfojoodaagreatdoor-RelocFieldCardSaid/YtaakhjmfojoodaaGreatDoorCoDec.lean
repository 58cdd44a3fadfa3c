/- compact.Decode: the first row of the table that the word fits. -/
import Derived.Test.YtaakhjmfojoodaaGreatDoorCoEnc
import Derived.Test.YtaakhjmfojoodaaGreatDoorHeads
namespace Go.Proofs.YtaakhjmfojoodaaGreatDoor
open Go Go.Vai
noncomputable section
set_option maxRecDepth 100000
def Vt:List (Int→Option (List AV)):=[Yai,Z95,Yer,Ycx,Yet,Ycz,Yar,Yb9,Yag,Yao,Zth,Zs1,Ztk,Zug,Zsh,Zsn,Zts,Ztw,Ztz,Zuh,Zs7,Zsv,Ztc,Ztl,Zud,Zst,Zt8,Zs2,Zsr,Zt1,Ztg,Zs6,Zs8]
def W7(w:Int):List (Int→Option (List AV))→Option (List AV):=List.rec (motive:=fun _=>Option (List AV)) none fun a _ ih=>Option.rec (motive:=fun _=>Option (List AV)) ih (fun l=>some l) (a w)
def Zqc:List AV:=[.str [],.int .i64 (.ofNat 0),.int .i64 (.ofNat 0),.int .i64 (.ofNat 0),.int .i64 (.ofNat 0),.int .i64 (.ofNat 0)]
def Zue:Option (List AV)→AV
 |some l=>.tup [.agg l,.int .i64 (.ofNat 2),.int .i64 (.ofNat 0)]
 |none=>.tup [.agg Zqc,.int .i64 (.ofNat 0),.int .i64 (.ofNat 22)]
theorem Zb0(w:Int)(a:Int→Option (List AV))(l:List (Int→Option (List AV))):W7 w (a::l)=Option.rec (motive:=fun _=>Option (List AV)) (W7 w l) (fun l=>some l) (a w):=rfl
theorem Zos{w:Int}:∀{l:List (Int→Option (List AV))}{j:Nat}{a:Int→Option (List AV)}{x:List AV},l[j]?=some a→a w=some x→(∀ i,i<j→∀ b,l[i]?=some b→b w=none)→W7 w l=some x
 |[],_,_,_,h,_,_=>by simp at h
 |y::l,0,a,x,h,hx,_=>by
  simp only[List.getElem?_cons_zero,Option.some.injEq] at h
  subst h
  rw[Zb0,hx]
 |y::l,j+1,a,x,h,hx,hn=>by
  rw[Zb0,hn 0 (by omega) y rfl]
  exact Zos (by simpa using h) hx fun i hi z hz=>hn (i+1) (by omega) z (by simpa using hz)
theorem Zkg{w:Int}:∀{l:List (Int→Option (List AV))},(∀ b∈l,b w=none)→W7 w l=none
 |[],_=>rfl
 |y::l,h=>by
  rw[Zb0,h y List.mem_cons_self]
  exact Zkg fun b hb=>h b (List.mem_cons_of_mem _ hb)
theorem Yx9{w:Int}{T4:Tr AV}:∀{j:Nat},j<33→∃ a,Vt[j]?=some a∧Z6 EC (Yu EC 20) (flat Wg) (Yy 12 SC kc2) (Yx 62 SC (vC w j)) (Xm 12 [Yv T4,Xe])=coL w j T4 (a w)
 |0,_=>⟨Yai,rfl,coS0 w T4⟩
 |1,_=>⟨Z95,rfl,coS1 w T4⟩
 |2,_=>⟨Yer,rfl,coS2 w T4⟩
 |3,_=>⟨Ycx,rfl,coS3 w T4⟩
 |4,_=>⟨Yet,rfl,coS4 w T4⟩
 |5,_=>⟨Ycz,rfl,coS5 w T4⟩
 |6,_=>⟨Yar,rfl,coS6 w T4⟩
 |7,_=>⟨Yb9,rfl,coS7 w T4⟩
 |8,_=>⟨Yag,rfl,coS8 w T4⟩
 |9,_=>⟨Yao,rfl,coS9 w T4⟩
 |10,_=>⟨Zth,rfl,Y9p w T4⟩
 |11,_=>⟨Zs1,rfl,coS11 w T4⟩
 |12,_=>⟨Ztk,rfl,Y85 w T4⟩
 |13,_=>⟨Zug,rfl,coS13 w T4⟩
 |14,_=>⟨Zsh,rfl,Y98 w T4⟩
 |15,_=>⟨Zsn,rfl,Y8o w T4⟩
 |16,_=>⟨Zts,rfl,Y75 w T4⟩
 |17,_=>⟨Ztw,rfl,coS17 w T4⟩
 |18,_=>⟨Ztz,rfl,Y64 w T4⟩
 |19,_=>⟨Zuh,rfl,Y8f w T4⟩
 |20,_=>⟨Zs7,rfl,Y5y w T4⟩
 |21,_=>⟨Zsv,rfl,Y7i w T4⟩
 |22,_=>⟨Ztc,rfl,Y69 w T4⟩
 |23,_=>⟨Ztl,rfl,coS23 w T4⟩
 |24,_=>⟨Zud,rfl,Y7v w T4⟩
 |25,_=>⟨Zst,rfl,Y8a w T4⟩
 |26,_=>⟨Zt8,rfl,Y68 w T4⟩
 |27,_=>⟨Zs2,rfl,Y50 w T4⟩
 |28,_=>⟨Zsr,rfl,coS28 w T4⟩
 |29,_=>⟨Zt1,rfl,Y65 w T4⟩
 |30,_=>⟨Ztg,rfl,Y8c w T4⟩
 |31,_=>⟨Zs6,rfl,Y55 w T4⟩
 |32,_=>⟨Zs8,rfl,Y6k w T4⟩
 |_+33,h=>by omega
theorem Y2j:Vt.length=33:=rfl
def You:Option (List AV)→Bool
 |some [.str _,.int .i64 _,.int .i64 _,.int .i64 _,.int .i64 _,.int .i64 _]=>true
 |none=>true
 |_=>false
theorem Zan(w:Int):∀ a∈Vt,You (a w)=true:=by
 intro a ha
 simp only[Vt,List.mem_cons,List.not_mem_nil,or_false] at ha
 rcases ha with rfl|rfl|rfl|rfl|rfl|rfl|rfl|rfl|rfl|rfl|rfl|rfl|rfl|rfl|rfl|rfl|rfl|rfl|rfl|rfl|rfl|rfl|rfl|rfl|rfl|rfl|rfl|rfl|rfl|rfl|rfl|rfl|rfl
 ·unfold Yai
  repeat (first|rfl|apply Zx|apply Yt rfl|exact(Zu rfl rfl).1|exact(Zu rfl rfl).2)
 ·unfold Z95
  repeat (first|rfl|apply Zx|apply Yt rfl|exact(Zu rfl rfl).1|exact(Zu rfl rfl).2)
 ·unfold Yer
  repeat (first|rfl|apply Zx|apply Yt rfl|exact(Zu rfl rfl).1|exact(Zu rfl rfl).2)
 ·unfold Ycx
  repeat (first|rfl|apply Zx|apply Yt rfl|exact(Zu rfl rfl).1|exact(Zu rfl rfl).2)
 ·unfold Yet
  repeat (first|rfl|apply Zx|apply Yt rfl|exact(Zu rfl rfl).1|exact(Zu rfl rfl).2)
 ·unfold Ycz
  repeat (first|rfl|apply Zx|apply Yt rfl|exact(Zu rfl rfl).1|exact(Zu rfl rfl).2)
 ·unfold Yar
  repeat (first|rfl|apply Zx|apply Yt rfl|exact(Zu rfl rfl).1|exact(Zu rfl rfl).2)
 ·unfold Yb9
  repeat (first|rfl|apply Zx|apply Yt rfl|exact(Zu rfl rfl).1|exact(Zu rfl rfl).2)
 ·unfold Yag
  repeat (first|rfl|apply Zx|apply Yt rfl|exact(Zu rfl rfl).1|exact(Zu rfl rfl).2)
 ·unfold Yao
  repeat (first|rfl|apply Zx|apply Yt rfl|exact(Zu rfl rfl).1|exact(Zu rfl rfl).2)
 ·unfold Zth
  repeat (first|rfl|apply Zx|apply Yt rfl|exact(Zu rfl rfl).1|exact(Zu rfl rfl).2)
 ·unfold Zs1
  repeat (first|rfl|apply Zx|apply Yt rfl|exact(Zu rfl rfl).1|exact(Zu rfl rfl).2)
 ·unfold Ztk
  repeat (first|rfl|apply Zx|apply Yt rfl|exact(Zu rfl rfl).1|exact(Zu rfl rfl).2)
 ·unfold Zug
  repeat (first|rfl|apply Zx|apply Yt rfl|exact(Zu rfl rfl).1|exact(Zu rfl rfl).2)
 ·unfold Zsh
  repeat (first|rfl|apply Zx|apply Yt rfl|exact(Zu rfl rfl).1|exact(Zu rfl rfl).2)
 ·unfold Zsn
  repeat (first|rfl|apply Zx|apply Yt rfl|exact(Zu rfl rfl).1|exact(Zu rfl rfl).2)
 ·unfold Zts
  repeat (first|rfl|apply Zx|apply Yt rfl|exact(Zu rfl rfl).1|exact(Zu rfl rfl).2)
 ·unfold Ztw
  repeat (first|rfl|apply Zx|apply Yt rfl|exact(Zu rfl rfl).1|exact(Zu rfl rfl).2)
 ·unfold Ztz
  repeat (first|rfl|apply Zx|apply Yt rfl|exact(Zu rfl rfl).1|exact(Zu rfl rfl).2)
 ·unfold Zuh
  repeat (first|rfl|apply Zx|apply Yt rfl|exact(Zu rfl rfl).1|exact(Zu rfl rfl).2)
 ·unfold Zs7
  repeat (first|rfl|apply Zx|apply Yt rfl|exact(Zu rfl rfl).1|exact(Zu rfl rfl).2)
 ·unfold Zsv
  repeat (first|rfl|apply Zx|apply Yt rfl|exact(Zu rfl rfl).1|exact(Zu rfl rfl).2)
 ·unfold Ztc
  repeat (first|rfl|apply Zx|apply Yt rfl|exact(Zu rfl rfl).1|exact(Zu rfl rfl).2)
 ·unfold Ztl
  repeat (first|rfl|apply Zx|apply Yt rfl|exact(Zu rfl rfl).1|exact(Zu rfl rfl).2)
 ·unfold Zud
  repeat (first|rfl|apply Zx|apply Yt rfl|exact(Zu rfl rfl).1|exact(Zu rfl rfl).2)
 ·unfold Zst
  repeat (first|rfl|apply Zx|apply Yt rfl|exact(Zu rfl rfl).1|exact(Zu rfl rfl).2)
 ·unfold Zt8
  repeat (first|rfl|apply Zx|apply Yt rfl|exact(Zu rfl rfl).1|exact(Zu rfl rfl).2)
 ·unfold Zs2
  repeat (first|rfl|apply Zx|apply Yt rfl|exact(Zu rfl rfl).1|exact(Zu rfl rfl).2)
 ·unfold Zsr
  repeat (first|rfl|apply Zx|apply Yt rfl|exact(Zu rfl rfl).1|exact(Zu rfl rfl).2)
 ·unfold Zt1
  repeat (first|rfl|apply Zx|apply Yt rfl|exact(Zu rfl rfl).1|exact(Zu rfl rfl).2)
 ·unfold Ztg
  repeat (first|rfl|apply Zx|apply Yt rfl|exact(Zu rfl rfl).1|exact(Zu rfl rfl).2)
 ·unfold Zs6
  repeat (first|rfl|apply Zx|apply Yt rfl|exact(Zu rfl rfl).1|exact(Zu rfl rfl).2)
 ·unfold Zs8
  repeat (first|rfl|apply Zx|apply Yt rfl|exact(Zu rfl rfl).1|exact(Zu rfl rfl).2)
theorem Zlz{l:List AV}(h:You (some l)=true):∃ nm a b c d e,l=[.str nm,.int .i64 a,.int .i64 b,.int .i64 c,.int .i64 d,.int .i64 e]:=by
 unfold You at h
 split at h
 ·rename_i h2;cases h2;exact⟨_,_,_,_,_,_,rfl⟩
 ·rename_i h2;cases h2
 ·cases h
theorem Yuq{w:Int}{a:Int→Option (List AV)}{l:List AV}(ha:a∈Vt)(h:a w=some l):∀ v∈l,Plain v:=by
 have:=Zan w a ha
 rw[h] at this
 obtain⟨_,_,_,_,_,_,rfl⟩:=Zlz this
 exact Zh rfl
theorem Zn1{T1:Tr AV}(h1:Qq T1){keep:List Nat}:∀(j:Nat)(o o2:AObj),[Yv T1,Xe][j]?=some o→[Yv T1,Xe][j]?=some o2→Zcr 0 keep o o2:=by
 intro j o o2 e1 e2
 rw[e1] at e2;cases e2
 match j,e1 with
 |0,e=>cases e;exact Qs h1
 |1,e=>cases e;exact Qs Z2o
 |j+2,e=>simp at e
theorem Z77{T1:Tr AV}(h1:Qq T1){keep:List Nat}:∀(j:Nat)(o o2:AObj),[Yv T1][j]?=some o→[Yv T1][j]?=some o2→Zcr 0 keep o o2:=by
 intro j o o2 e1 e2
 rw[e1] at e2;cases e2
 match j,e1 with
 |0,e=>cases e;exact Qs h1
 |j+1,e=>simp at e
theorem Zb3:Qq coZ:=Xz (fun i v h=>by simp[Tr.get_nil] at h) (Zh rfl)
theorem Ybg(n:Nat):K7 EC (Yx 62 [4,5,6] [.ptr 12 0,.int .i64 (.ofNat 0),.int .i64 (.ofNat n)]).t (Xm 12 [Yv (Tr.putAll coZ 0 Zqc)]) fnC.results=some [.agg Zqc,.int .i64 (.ofNat 0),.int .i64 (.ofNat n)]:=by kernel_rfl
theorem Ydd(w:Int)(j:Nat)(a b c d e f:AV)(o2:AObj):K7 EC (Yx 62 SC (vCr w j)).t (Xm 12 [Yv (Tr.putAll coZ 0 [a,b,c,d,e,f]),o2]) fnC.results=some [.agg [a,b,c,d,e,f],.int .i64 (.ofNat 2),.int .i64 (.ofNat 0)]:=by kernel_rfl
section
variable {P:Program} {I:List MEnt→AHeap→World→Prop} {ro:Option Nat}
def Y99(u:AV):TQ:=fun e fr H=>(e=.normal∨e=.ret)∧fr.df=[]∧∃ keep fr' H' l,Ren 12 keep fr H fr' H'∧K7 EC fr'.t H' fnC.results=some l∧Zn9 l=u
theorem Yyf(hE:EnvOk EC P I)(hI:Carried I)(w:Int):Tri EC P I ro (.loop Wg) (Yx 62 SC (vC w 0)) (Xm 12 [Yv coZ,Xe]) fun e fr H=>
  (e=.exit 1∧W7 w Vt=none∧Ren 12 kc2 fr H (Yx 62 SC (vC w 33)) (Xm 12 [Yv coZ,Xe]))∨(e=.ret∧∃ l j,W7 w Vt=some l∧You (some l)=true∧Ren 12 kc2 fr H (Yx 62 SC (vCr w j)) (Xm 12 [Yv (Tr.putAll coZ 0 l),Xe])):=by
 refine Tri.loop (X:=Nat) (fr:=fun j=>Yx 62 SC (vC w j)) (H:=fun _=>Xm 12 [Yv coZ,Xe]) (Inv:=fun j=>j≤33∧∀ i,i<j→∀ b,Vt[i]?=some b→b w=none) (fun j=>33 - j) hI ?_ 0 ⟨Nat.zero_le _,fun i hi=>by omega⟩
 rintro j ⟨hj,hn⟩
 refine Jb _ ?_
 by_cases h:j<33
 ·obtain⟨a,ha,e⟩:=Yx9 (w:=w) (T4:=coZ) h
  have hm:=List.mem_of_getElem? ha
  cases hb:a w with
  |none=>
   rw[hb] at e
   exact Xy.leafC hE (Vd EC 20) e (by decide) rfl rfl (Zn1 Zb3) fun fr' H' r=>.inl ⟨rfl,j+1,kc2,⟨h,fun i hi y hy=>by
    by_cases e2:i=j
    ·subst e2;rw[ha] at hy;cases hy;exact hb
    ·exact hn i (by omega) y hy⟩,by omega,r⟩
  |some l=>
   rw[hb] at e
   have h6:=Zan w a hm
   rw[hb] at h6
   exact Xy.leafC hE (Vd EC 20) e (by decide) rfl rfl (Zn1 (Xz Zb3 (Yuq hm hb))) fun fr' H' r=>.inr ⟨(by intro h;cases h),.inr ⟨rfl,l,j,Zos ha hb hn,h6,r⟩⟩
 ·obtain rfl:j=33:=by omega
  refine Xy.leafC hE (Vd EC 3) (vs:=vC w 33) (os:=[Yv coZ,Xe]) (os2:=[Yv coZ,Xe]) (Y5d w coZ) (by decide) rfl rfl (Zn1 Zb3) fun fr' H' r=>.inr ⟨(by intro h;cases h),.inl ⟨rfl,?_,r⟩⟩
  refine Zkg fun y hy=>?_
  obtain⟨i,hi,e⟩:=List.getElem_of_mem hy
  exact hn i (by rw[←Y2j];exact hi) y (by rw[List.getElem?_eq_getElem hi,e])
theorem Yy2(hE:EnvOk EC P I)(hI:Carried I)(w:Int):Xy EC P I ro (((flat fnC.body).drop 3).take 1++.block 1 (.loop Wg)::(flat fnC.body).drop 5) (Yx 62 SC0 [.ptr 12 0,.int .i64 (.ofNat 0),.int .i64 (.ofNat 0),.int .u16 w]) (Xm 12 [Yv coZ]) (Y99 (Zue (W7 w Vt))):=by
 refine Xy.leafXC hE hI (Vd EC 3) (vs:=vC w 0) (os:=[Yv coZ,Xe]) (os2:=[Yv coZ,Xe]) (Y7y w coZ) (by decide) rfl rfl (Zn1 Zb3) (.inl ⟨rfl,?_⟩)
 refine Tri.mono (Tri.block (Q:=fun e fr H=>(e=.normal∧W7 w Vt=none∧Ren 12 kc2 fr H (Yx 62 SC (vC w 33)) (Xm 12 [Yv coZ,Xe]))∨(e=.ret∧∃ l j,W7 w Vt=some l∧You (some l)=true∧Ren 12 kc2 fr H (Yx 62 SC (vCr w j)) (Xm 12 [Yv (Tr.putAll coZ 0 l),Xe]))) ((Yyf hE hI w).mono ?_)) ?_
 ·rintro e fr H (⟨rfl,h⟩ | ⟨rfl,h⟩)
  ·exact .inl ⟨rfl,h⟩
  ·exact .inr ⟨rfl,h⟩
 ·rintro e fr H (⟨rfl,hf,r⟩ | ⟨rfl,l,j,hf,h6,r⟩)
  ·refine .inl ⟨rfl,Xy.ren hI r ?_⟩
   rw[hf]
   exact Xy.leafC hE (Vd EC 3) (vs:=[.ptr 12 0,.int .i64 (.ofNat 0),.int .i64 (.ofNat 22)]) (os:=[Yv (Tr.putAll coZ 0 Zqc)]) (os2:=[Yv (Tr.putAll coZ 0 Zqc)]) (Y9b w coZ) (by decide) rfl rfl (Z77 (Xz Zb3 (Zh rfl))) fun fr' H' r=>⟨.inr rfl,r.df.1,_,_,_,_,r,Ybg 22,rfl⟩
  ·obtain⟨a,b,c,d,e2,f,rfl⟩:=Zlz h6
   refine .inr ⟨(by intro h;cases h),.inr rfl,r.df.1,_,_,_,_,r,Ydd w j _ _ _ _ _ _ Xe,?_⟩
   rw[hf];rfl
theorem Yy3{o l n a:Nat}{T:Tr AV}{b0 b1:Int}(h:a+2≤l)(hl:l<4611686018427387904)(h0:T.get (o+a)=some (.int .u8 b0))(h1:T.get (o+(a+1))=some (.int .u8 b1)) :
  Y3m o l n (.ofNat a) T=lf .normal 62 ([.ptr 12 0,.int .i64 (.ofNat 0),.int .i64 (.ofNat 0),.int .u16 (Ze1 b0 b1)].map some) ([Yv coZ].map some):=by
 have e0:Tr.get T (Nat.add o (Nat.mul (Int.toNat (.ofNat a)) 1))=some (.int .u8 b0):=by rw[←h0];show T.get (o+a*1)=_;rw[Nat.mul_one]
 have e1:Tr.get T (Nat.add o (Nat.mul (Int.toNat (.ofNat (a+1))) 1))=some (.int .u8 b1):=by rw[←h1];show T.get (o+(a+1)*1)=_;rw[Nat.mul_one]
 have f2:Z2 (.ofNat l) (.ofNat a)=false:=by rw[Y2,decide_eq_false_iff_not];exact Int.not_lt.2 (Int.ofNat_le.2 (by omega))
 have f3:Z2 (Za .i64 (Int.sub (.ofNat l) (.ofNat a))) (.ofNat 2)=false:=by
  rw[Zpv (by omega) hl,Y2,decide_eq_false_iff_not];exact Int.not_lt.2 (Int.ofNat_le.2 (by omega))
 have g:∀ k,a+k<l→Nat.blt (Int.toNat (.ofNat (a+k))) l=true:=fun k hk=>by rw[Nat.blt_eq];exact hk
 have z:∀ k:Nat,Z2 (.ofNat k) (.ofNat 0)=false:=fun _=>rfl
 unfold Y3m
 simp only[z,f2,f3,Zco (k:=1) (show a+1<4611686018427387904 by omega),e0,e1,g 0 (by omega),g 1 (by omega),show Nat.blt (Int.toNat (.ofNat a)) l=true from g 0 (by omega),Vs,Zl,Yij,Ym,Yg]
 rfl
theorem Yvu(hE:EnvOk EC P I)(hI:Carried I){o l c n a:Nat}{T:Tr AV}{b0 b1:Int}(h:a+2≤l)(hl:l<4611686018427387904)(h0:T.get (o+a)=some (.int .u8 b0))(h1:T.get (o+(a+1))=some (.int .u8 b1)) :
  Tri EC P I ro fnC.body (Qa fnC [.sl 12 o l (some c),.int .i64 (.ofNat a)]) (Xm 12 [.cells n T 0 none 0 true false]) (Y99 (Zue (W7 (Ze1 b0 b1) Vt))):=by
 refine Jb _ ?_
 rw[Y6t,List.append_assoc]
 exact Xy.leafXC hE hI (Vd EC 3) (vs:=[.ptr 12 0,.int .i64 (.ofNat 0),.int .i64 (.ofNat 0),.int .u16 (Ze1 b0 b1)]) (os:=[Yv coZ]) (os2:=[Yv coZ]) ((Y67 o l c n (.ofNat a) T).trans (Yy3 h hl h0 h1)) (by decide) rfl rfl (Z77 Zb3) (.inl ⟨rfl,Yy2 hE hI _⟩)
end
def coO(w:Int):AV:=Zue (W7 w Vt)
def coDN(w:Int):List UInt8:=Ygg (at_ [0,0] (coO w))
def coDA(w:Int):Int:=Va (at_ [0,1] (coO w))
def coDB(w:Int):Int:=Va (at_ [0,2] (coO w))
def coDC(w:Int):Int:=Va (at_ [0,3] (coO w))
def coDD(w:Int):Int:=Va (at_ [0,4] (coO w))
def coDI(w:Int):Int:=Va (at_ [0,5] (coO w))
def coDS(w:Int):Int:=Va (at_ [1] (coO w))
def coDE(w:Int):Int:=Va (at_ [2] (coO w))
def coU(w:Int):AV:=.tup [.agg [.str (coDN w),.int .i64 (coDA w),.int .i64 (coDB w),.int .i64 (coDC w),.int .i64 (coDD w),.int .i64 (coDI w)],.int .i64 (coDS w),.int .i64 (coDE w)]
theorem Za8{w:Int}:∀{l:List (Int→Option (List AV))}{x:List AV},W7 w l=some x→∃ a∈l,a w=some x
 |[],_,h=>by cases h
 |y::l,x,h=>by
  rw[Zb0] at h
  cases hy:y w with
  |none=>
   rw[hy] at h
   obtain⟨a,ha,e⟩:=Za8 (l:=l) h
   exact⟨a,List.mem_cons_of_mem _ ha,e⟩
  |some z=>
   rw[hy] at h
   cases h
   exact⟨y,List.mem_cons_self,hy⟩
theorem Y5g(w:Int):Zue (W7 w Vt)=coU w:=by
 unfold coU coDN coDA coDB coDC coDD coDI coDS coDE coO
 cases h:W7 w Vt with
 |none=>rfl
 |some l=>
  obtain⟨a,ha,e⟩:=Za8 h
  have hs:=Zan w a ha
  rw[e] at hs
  obtain⟨_,_,_,_,_,_,rfl⟩:=Zlz hs
  rfl
theorem Zla:Zr Tryz.prog gl (Zl2 70 coU):=Yuu (E:=EC) Z08 Y08 (fun _ _ _=>rfl) fun w hw o l c n a T b0 b1 h hl h0 h1=>by
 have t:=Yvu (ro:=none) (Z08 w hw) (Zz hw) (c:=c) (n:=n) h hl h0 h1
 rw[Y5g] at t
 exact t
end
end Go.Proofs.YtaakhjmfojoodaaGreatDoor
