/- What the join of RelocField needs: the parts as they are, environments, closed checks of names. -/
import Derived.Test.YtaakhjmfojoodaaGreatDoorRfPlR
import Derived.Test.YtaakhjmfojoodaaGreatDoorRfPlC
import Derived.Test.YtaakhjmfojoodaaGreatDoorRfLaw0
namespace Go.Proofs.YtaakhjmfojoodaaGreatDoor
open Go Go.Vai
noncomputable section
set_option maxRecDepth 100000
def SR:RfS:={ rvDN:=rvDN,arDN:=arDN,coDN:=coDN,rvDA:=rvDA,rvDB:=rvDB,rvDC:=rvDC,rvDD:=rvDD,rvDI:=rvDI,rvDS:=rvDS,rvDE:=rvDE,arDA:=arDA,arDB:=arDB,arDC:=arDC,arDD:=arDD,arDI:=arDI,arDS:=arDS,arDE:=arDE,coDA:=coDA,coDB:=coDB,coDC:=coDC,coDD:=coDD,coDI:=coDI,coDS:=coDS,coDE:=coDE,rvEE:=rvEE,rvEW:=rvEW,arEE:=arEE,arEW:=arEW,coEE:=coEE,coEW:=coEW,fit:=Y7f}
theorem Yrj{n:Nat}(h:n<1000000):Vz n 1=true:=by
 unfold Vz
 rw[Bool.or_eq_true,Nat.ble_eq]
 left;omega
theorem Ycd(o k c n0:Nat)(T:Tr AV):Yr E1 100 (.call 15 [.sl 12 o (Nat.succ k) (some c)] (Xm 12 [.cells n0 T 0 none 0 true false])) [] (Y66 14)=bc (Xc T o (Nat.mul (Nat.succ k) 1)) (bc (Vz (Nat.add 0 (Nat.succ k)) 1) (some (.sl 14 0 (Nat.add 0 (Nat.succ k)) none,some (.cells (Nat.mul (Nat.add 0 (Nat.succ k)) 1) (Tr.nil.putAll 0 (Z5 T o (Nat.mul (Nat.succ k) 1))) 5 (some 1) 0 false false))) none) none:=by kernel_rfl
theorem Zo8:Zr Tryz.prog gl (K0 15 5):=Yk6 (E:=E1) Ky (by kernel_rfl) fun o n c n0 T h0 h1 h2=>by
 obtain⟨k,rfl⟩:∃ k,n=Nat.succ k:=⟨n - 1,by omega⟩
 have e:Nat.mul (Nat.succ k) 1=Nat.succ k:=Nat.mul_one _
 have e2:Nat.add 0 (Nat.succ k)=Nat.succ k:=Nat.zero_add _
 have r:=Ycd o k c n0 T
 rw[e2,e] at r
 exact r.trans (Zb h2 (Zb (Yrj (show k+1<1000000 by omega)) rfl))
theorem Y2l{t:Nat}{ty:Int}{v:AV}(hf:Zr Tryz.prog gl (Zy t ty v))(w:World)(hw:Z4 gl w):EnvOk (EAp SR t ty v) Tryz.prog (Kept gl w):=Xv (by kernel_rfl) ((Xx V4).or (Zbi.or (Zo8.or (Zks.or (Zla.or (Zs4.or (Ztr.or (Zs9.or (Zsz.or (Yk5.or hf)))))))))) Xw (fun _ _ _ h=>h.1) (Zz hw).ext
theorem Yud{t:Nat}{ty:Int}{v:AV}(hf:Zr Tryz.prog gl (Zy t ty v))(w:World)(hw:Z4 gl w):EnvOk (Z5t SR t ty v) Tryz.prog (Kept gl w):=Xv (by kernel_rfl) ((Xx V4).or (Zbi.or (Zo8.or (Zks.or (Zla.or (Zs4.or (Ztr.or (Zs9.or (Yk5.or hf))))))))) Xw (fun _ _ _ h=>h.1) (Zz hw).ext
theorem Zx6{t:Nat}{ty a s p:Int}{size:Nat}{ins:List UInt8}{imm:Bool}{Q:RfI}{G:List UInt8→Bool}{L2:List UInt8}(h:∀ X,G X=true→Zab Tryz.prog gl 5 5 (.ofNat t) ty a s p X (.ofNat 0) (some L2))(hf:Zr Tryz.prog gl (Zy t ty (Xj ty Q.nm Q.V size Q.ck ins)))(hr:Zr Tryz.prog gl (Xl t ty Q imm))(w:World)(hw:Z4 gl w):EnvOk (ELk SR t ty a s p size ins imm Q G L2) Tryz.prog (Kept gl w):=Xv (by kernel_rfl) ((Yva (f:=5) (e:=5) h).or (hf.or (hr.or (Zks.or (Zsz.or (Zla.or ((Zi0 Zgx).or (Xx V4)))))))) Xw (fun _ _ _ h=>h.1) (Zz hw).ext
theorem Jz{t:Nat}{ty:Int}{v:AV}{a:Nat}{s p x:Int}{L:List UInt8}{r:Option (List UInt8)}{er:Bool}{o:Ql}(hf:Zr Tryz.prog gl (Zy t ty v))(h:∀ c n0,Yyy (EAp SR t ty v) (SK SR t ty v er) t ty c n0 L.length (bT L) a s p o=some (x,r.map (·.map Z3))):Zab Tryz.prog gl 5 5 (.ofNat t) ty (.ofNat a) s p L x r:=⟨EAp SR t ty v,100000,SK SR t ty v er,o,Y2l hf,by kernel_rfl,Y6i _ _ _ _ _,h⟩
theorem ans2{t:Nat}{ty:Int}{v:AV}{a:Nat}{s p x:Int}{L:List UInt8}{r:Option (List UInt8)}{er:Bool}{o:Ql}(hf:Zr Tryz.prog gl (Zy t ty v))(h:∀ c n0,Yyy (Z5t SR t ty v) (SK2 SR t ty v er) t ty c n0 L.length (bT L) a s p o=some (x,r.map (·.map Z3))):Zab Tryz.prog gl 5 5 (.ofNat t) ty (.ofNat a) s p L x r:=⟨Z5t SR t ty v,100000,SK2 SR t ty v er,o,Yud hf,by kernel_rfl,Y29 _ _ _ _ _,h⟩
def X0(t ty:Int)(L:List UInt8)(a s p:Int):Prop:=∀ c,L.length≤c→∃(E:Env)(sk:Smk AV)(o:Ql),(∀ w,Z4 gl w→EnvOk E Tryz.prog (Kept gl w))∧(E.fn 3).isSome=true∧E.ng=12∧Qp E sk∧Ygm E sk t ty c L.length (bT L) a s p o=some (.bool true)
theorem Z8z{t ty a s p x:Int}{L:List UInt8}(h400:L.length≤400)(hx:Zd x (.ofNat 0)=false)(h:Zab Tryz.prog gl 5 5 t ty a s p L x none):X0 t ty L a s p:=fun c _=>⟨EEr t ty a s p x fun X=>decide (X=L),SEr t ty a s p x fun X=>decide (X=L),[false,false,true],Y47 h,by kernel_rfl,rfl,Y01 _ _ _ _ _ _ _,Y1l h400 hx (decide_eq_true rfl) c⟩
def Za7(t:Nat)(ty:Int)(a:Nat)(s p:Int)(L:List UInt8):Prop:=∃ x,Zd x (.ofNat 0)=false∧Zab Tryz.prog gl 5 5 (.ofNat t) ty (.ofNat a) s p L x none
theorem Za7.law{t:Nat}{ty:Int}{a:Nat}{s p:Int}{L:List UInt8}(h:Za7 t ty a s p L)(h400:L.length≤400):X0 (.ofNat t) ty L (.ofNat a) s p:=by
 obtain⟨x,hx,h⟩:=h
 exact Z8z h400 hx h
def GL(L L2:List UInt8)(X:List UInt8):Bool:=decide (X=L)||decide (X=L2)
theorem gl1(L L2:List UInt8):GL L L2 L=true:=by simp[GL]
theorem gl2(L L2:List UInt8):GL L L2 L2=true:=by simp[GL]
theorem two{t ty a s p:Int}{L L2:List UInt8}(h1:Zab Tryz.prog gl 5 5 t ty a s p L (.ofNat 0) (some L2))(h2:Zab Tryz.prog gl 5 5 t ty a s p L2 (.ofNat 0) (some L2))(X:List UInt8)(hX:GL L L2 X=true):Zab Tryz.prog gl 5 5 t ty a s p X (.ofNat 0) (some L2):=by
 unfold GL at hX
 rw[Bool.or_eq_true,decide_eq_true_eq,decide_eq_true_eq] at hX
 rcases hX with rfl|rfl
 ·exact h1
 ·exact h2
theorem X7{L:List UInt8}{a:Nat}(hn:L.length<1000000)(ha:a<L.length):Zl (Tr.get (Ye (bT L) L.length) (Nat.add 0 (Nat.mul a 1)))=Js L a:=by
 rw[Zqp]
 exact Q9 (Zt hn) ha
theorem Zns{L:List UInt8}{a:Nat}(hn:L.length<1000000)(ha:a<L.length):Zl (Tr.get (bT L) (at1 a))=Js L a:=by
 rw[Zil]
 exact Q9 (Zj hn) ha
def Zd4(x:Int):Bool:=Zd (Za .u8 (Ze .u8 x (.ofNat 3))) (.ofNat 3)
theorem Z8w{bs L:List UInt8}{a:Nat}{W:Int}(h:a+bs.length≤L.length)(hb:bs[0]?=some (V3 W)):Js (Y5 L a bs) a=Za .u8 W:=(Zo5 (j:=0) h hb).trans (Zv7 W)
theorem Ybh:(Xb.all fun x=>Zd (Int.emod (Z16 x.2.2) (.ofNat 4)) (.ofNat 3))=true:=by kernel_rfl
theorem Zp9{w:Int}(h0:Zd (rvDE w) (.ofNat 0)=true):∃ x,Xb.find? (Qd w)=some x:=by
 cases hf:Xb.find? (Qd w) with
 |some x=>exact⟨x,rfl⟩
 |none=>
  have e:rvDE w=.ofNat 22:=by
   unfold rvDE rvO
   rw[hf];rfl
  rw[e] at h0;cases h0
theorem Y16{w:Int}(h0:Zd (arDE w) (.ofNat 0)=true):∃ x,Wm.find? (Vx w)=some x:=by
 cases hf:Wm.find? (Vx w) with
 |some x=>exact⟨x,rfl⟩
 |none=>
  have e:arDE w=.ofNat 22:=by
   unfold arDE arO
   rw[hf];rfl
  rw[e] at h0;cases h0
theorem a3u(x:Int):Ze .u8 x (.ofNat 3)=x % 4:=Zma 2 rfl (by decide)
theorem Y35{W:Int}(h:Zd (rvDE W) (.ofNat 0)=true):Zd4 (Za .u8 W)=true:=by
 obtain⟨x,hf⟩:=Zp9 h
 have hit:=List.find?_some hf
 unfold Qd at hit
 rw[Bool.and_eq_true,Ya,Ya,decide_eq_true_eq,decide_eq_true_eq] at hit
 have hl:=List.all_eq_true.1 Ybh x (List.mem_of_find?_eq_some hf)
 rw[Ya,decide_eq_true_eq] at hl
 unfold Z16 at hl
 rw[hit.1,Yta,Z1] at hl
 have hl:W % 128 % 4294967296 % 4=3:=hl
 unfold Zd4
 rw[a3u,Zfq,Zfq,Ya,decide_eq_true_eq]
 show W % 256 % 4 % 256=3
 omega
def sp(nm:List UInt8):List UInt8:=([32]++nm)++[32]
theorem Ywf:(Wm.all fun x=>Nat.ble (Zv x.nm) 1000)=true:=by kernel_rfl
theorem Yxg:(Xb.all fun x=>Nat.ble (Zv x.1) 1000&&(Nat.ble 2 (Zv x.1)&&!(leq (List.take 2 (List.drop 0 x.1)) [99,46])))=true:=by kernel_rfl
theorem Yx6:(Zem.all fun x=>Nat.ble (Zv x) 1000&&(Nat.ble 2 (Zv x)&&leq (List.take 2 (List.drop 0 x)) [99,46]))=true:=by kernel_rfl
theorem Qj(w:Int):Zv (arDN w)≤1000:=by
 cases hf:Wm.find? (Vx w) with
 |none=>
  have e:arDN w=[]:=by
   unfold arDN arO
   rw[hf];rfl
  rw[e];exact Nat.zero_le _
 |some x=>
  rw[(Z7z hf).1]
  exact Nat.le_of_ble_eq_true (List.all_eq_true.1 Ywf x (List.mem_of_find?_eq_some hf))
theorem Zju{w:Int}{x:Zc6}(hf:Xb.find? (Qd w)=some x):rvDN w=x.1:=(Yoi hf).1.trans (Zzr ..)
theorem Z2n{x:Zc6}(hx:x∈Xb):Zv x.1≤1000∧2≤Zv x.1∧leq (List.take 2 (List.drop 0 x.1)) [99,46]=false:=by
 have h:=List.all_eq_true.1 Yxg x hx
 rw[Bool.and_eq_true,Bool.and_eq_true,Bool.not_eq_true'] at h
 exact⟨Nat.le_of_ble_eq_true h.1,Nat.le_of_ble_eq_true h.2.1,h.2.2⟩
theorem Qk(w:Int):Zv (rvDN w)≤1000:=by
 cases hf:Xb.find? (Qd w) with
 |none=>
  have e:rvDN w=[]:=by
   unfold rvDN rvO
   rw[hf];rfl
  rw[e];exact Nat.zero_le _
 |some x=>
  rw[Zju hf]
  exact(Z2n (List.mem_of_find?_eq_some hf)).1
theorem Zff{w:Int}(h:Zd (rvDE w) (.ofNat 0)=true):2≤Zv (rvDN w):=by
 obtain⟨x,hf⟩:=Zp9 h
 rw[Zju hf]
 exact(Z2n (List.mem_of_find?_eq_some hf)).2.1
theorem Zfm{w:Int}(h:Zd (rvDE w) (.ofNat 0)=true):leq (List.take 2 (List.drop 0 (rvDN w))) [99,46]=false:=by
 obtain⟨x,hf⟩:=Zp9 h
 rw[Zju hf]
 exact(Z2n (List.mem_of_find?_eq_some hf)).2.2
theorem Zoq{w:Int}(h:Zd (coDE w) (.ofNat 0)=true):coDN w∈Zem:=by
 obtain⟨_,_,_,h⟩:=Y1c h
 obtain⟨m,hm,e⟩:=List.any_eq_true.1 h
 rw[Q6,decide_eq_true_eq] at e
 rw[←e];exact hm
theorem Z4k{x:List UInt8}(hx:x∈Zem):Zv x≤1000∧2≤Zv x∧leq (List.take 2 (List.drop 0 x)) [99,46]=true:=by
 have h:=List.all_eq_true.1 Yx6 x hx
 rw[Bool.and_eq_true,Bool.and_eq_true] at h
 exact⟨Nat.le_of_ble_eq_true h.1,Nat.le_of_ble_eq_true h.2.1,h.2.2⟩
theorem Zcv(w:Int):Zv (coDN w)≤1000:=by
 cases hf:W7 w Vt with
 |none=>
  have e:coDN w=[]:=by
   unfold coDN coO
   rw[hf];rfl
  rw[e];exact Nat.zero_le _
 |some l=>
  refine(Z4k (Zoq ?_)).1
  obtain⟨a,ha,e⟩:=Za8 hf
  have hs:=Zan w a ha
  rw[e] at hs
  obtain⟨_,_,_,_,_,_,rfl⟩:=Zlz hs
  unfold coDE coO
  rw[hf];rfl
theorem Ykj{w:Int}(h:Zd (coDE w) (.ofNat 0)=true):2≤Zv (coDN w):=(Z4k (Zoq h)).2.1
theorem Yll{w:Int}(h:Zd (coDE w) (.ofNat 0)=true):leq (List.take 2 (List.drop 0 (coDN w))) [99,46]=true:=(Z4k (Zoq h)).2.2
def Zbt(ins:List UInt8):Bool:=Wm.all fun x=>!(Yq ins (([32]++x.nm)++[32]))||arG x.nm
def Zcq(ins:List UInt8):Bool:=(Xb.all fun x=>!(Yq ins (([32]++x.1)++[32]))||Zki (Zi1 x.1))&&Zem.all fun x=>!(Yq ins (([32]++x)++[32]))
def Zon(ins:List UInt8):Bool:=(Zem.all fun x=>!(Yq ins (([32]++x)++[32]))||coG x)&&Xb.all fun x=>!(Yq ins (([32]++x.1)++[32]))
theorem Z15{a b:Bool}(h:(!a||b)=true)(ha:a=true):b=true:=by subst ha;exact h
theorem insA{ins:List UInt8}(hc:Zbt ins=true){w:Int}(h0:Zd (arDE w) (.ofNat 0)=true)(h:Yq ins (([32]++arDN w)++[32])=true):arG (arDN w)=true:=by
 obtain⟨x,hf⟩:=Y16 h0
 rw[(Z7z hf).1] at h ⊢
 exact Z15 (List.all_eq_true.1 hc x (List.mem_of_find?_eq_some hf)) h
theorem insR{ins:List UInt8}(hc:Zcq ins=true){w:Int}(h0:Zd (rvDE w) (.ofNat 0)=true)(h:Yq ins (([32]++rvDN w)++[32])=true):Zki (Zi1 (rvDN w))=true:=by
 obtain⟨x,hf⟩:=Zp9 h0
 rw[Zju hf] at h ⊢
 unfold Zcq at hc
 rw[Bool.and_eq_true] at hc
 exact Z15 (List.all_eq_true.1 hc.1 x (List.mem_of_find?_eq_some hf)) h
theorem Y9w{ins:List UInt8}(hc:Zcq ins=true){w:Int}(h0:Zd (coDE w) (.ofNat 0)=true):Yq ins (([32]++coDN w)++[32])=false:=by
 unfold Zcq at hc
 rw[Bool.and_eq_true] at hc
 have:=List.all_eq_true.1 hc.2 _ (Zoq h0)
 rwa [Bool.not_eq_true'] at this
theorem insC{ins:List UInt8}(hc:Zon ins=true){w:Int}(h0:Zd (coDE w) (.ofNat 0)=true)(h:Yq ins (([32]++coDN w)++[32])=true):coG (coDN w)=true:=by
 unfold Zon at hc
 rw[Bool.and_eq_true] at hc
 exact Z15 (List.all_eq_true.1 hc.1 _ (Zoq h0)) h
theorem Y6j{ins:List UInt8}(hc:Zon ins=true){w:Int}(h0:Zd (rvDE w) (.ofNat 0)=true):Yq ins (([32]++rvDN w)++[32])=false:=by
 obtain⟨x,hf⟩:=Zp9 h0
 rw[Zju hf]
 unfold Zon at hc
 rw[Bool.and_eq_true] at hc
 have:=List.all_eq_true.1 hc.2 x (List.mem_of_find?_eq_some hf)
 rwa [Bool.not_eq_true'] at this
end
end Go.Proofs.YtaakhjmfojoodaaGreatDoor
namespace Go.Proofs.YtaakhjmfojoodaaGreatDoor
open Go Go.Vai
noncomputable section
set_option maxRecDepth 100000
theorem Znx{ty s p n:Int}{ins:List UInt8}{Q:RfI}{u:Bool}(hf:Zr Tryz.prog gl (Zy 2 ty (Xj ty Q.nm Q.V 4 Q.ck ins)))(hr:Zr Tryz.prog gl (Xl 2 ty Q true))(hm:Q.m≠0)(hc:Zbt ins=true)
  (D:∀{L:List UInt8}{a:Nat},L.length<1000000→a+4≤L.length→Zd (arDE (w4 L a)) (.ofNat 0)=false→Za7 2 ty a s p L)
  (C:∀{L:List UInt8}{a:Nat},L.length<1000000→a+4≤L.length→Zd (arDE (w4 L a)) (.ofNat 0)=true→Yq ins (([32]++arDN (w4 L a))++[32])=false→Za7 2 ty a s p L)
  (E:∀{L:List UInt8}{a:Nat},L.length<1000000→a+4≤L.length→Zd (arDE (w4 L a)) (.ofNat 0)=true→Yq ins (([32]++arDN (w4 L a))++[32])=true→arG (arDN (w4 L a))=true→Zd (SR.arEx (w4 L a) n) (.ofNat 0)=false→Za7 2 ty a s p L)
  (U:∀{L:List UInt8}{a:Nat},L.length<1000000→a+4≤L.length→Zd (arDE (w4 L a)) (.ofNat 0)=true→Yq ins (([32]++arDN (w4 L a))++[32])=true→arG (arDN (w4 L a))=true→Zd (SR.arEx (w4 L a) n) (.ofNat 0)=true→u=false→Za7 2 ty a s p L)
  (K:∀{L:List UInt8}{a:Nat},L.length<1000000→a+4≤L.length→Zd (arDE (w4 L a)) (.ofNat 0)=true→Yq ins (([32]++arDN (w4 L a))++[32])=true→arG (arDN (w4 L a))=true→Zd (SR.arEx (w4 L a) n) (.ofNat 0)=true→u=true→Zab Tryz.prog gl 5 5 (.ofNat 2) ty (.ofNat a) s p L (.ofNat 0) (some (Y5 L a (by4 (SR.arWx (w4 L a) n)))))
  {L:List UInt8} {a:Nat} (h400:L.length≤400) (ha:a+4≤L.length):X0 (.ofNat 2) ty L (.ofNat a) s p:=by
 have hn:L.length<1000000:=by omega
 cases h0:Zd (arDE (w4 L a)) (.ofNat 0) with
 |false=>exact(D hn ha h0).law h400
 |true=>
  cases h1:Yq ins (([32]++arDN (w4 L a))++[32]) with
  |false=>exact(C hn ha h0 h1).law h400
  |true=>
   have hG:=insA hc h0 h1
   cases h2:Zd (SR.arEx (w4 L a) n) (.ofNat 0) with
   |false=>exact(E hn ha h0 h1 hG h2).law h400
   |true=>
    cases hu:u with
    |false=>exact(U hn ha h0 h1 hG h2 hu).law h400
    |true=>
     obtain⟨W,eW,hW,e0,e1,e2,e3,e4,e5⟩:=Yx3 (Zzh L a) h0 hG h2
     have k1:=K hn ha h0 h1 hG h2 hu
     rw[show SR.arWx (w4 L a) n=W from eW] at k1
     have hl2:(Y5 L a (by4 W)).length=L.length:=Z7 ..
     have hn2:(Y5 L a (by4 W)).length<1000000:=by rw[hl2];exact hn
     have ha2:a+4≤(Y5 L a (by4 W)).length:=by rw[hl2];exact ha
     have w2:w4 (Y5 L a (by4 W)) a=W:=Z7r ha hW
     have h22:Zd (SR.arEx W n) (.ofNat 0)=true:=by
      show Zd (arEE (arDN W) (arDA W) (arDB W) (arDC W) (arDD W) n) (.ofNat 0)=true
      rw[e0,e1,e2,e3,e4]
      exact h2
     have k2:=K hn2 ha2 (by rw[w2];exact e5) (by rw[w2,e0];exact h1) (by rw[w2,e0];exact hG) (by rw[w2];exact h22) hu
     have eW2:SR.arWx W n=W:=by
      show arEW (arDN W) (arDA W) (arDB W) (arDC W) (arDD W) n=W
      rw[e0,e1,e2,e3,e4]
      exact eW
     rw[w2,eW2,Zev (bs:=by4 W) ha] at k2
     have q1:Y6 (bT L) a=w4 L a:=Znw (Zj hn) ha
     have q2:Y6 (bT (Y5 L a (by4 W))) a=W:=(Znw (Zj hn2) ha2).trans w2
     intro c hlc
     refine⟨ELk SR 2 ty (.ofNat a) s p 4 ins true Q (GL L (Y5 L a (by4 W))) (Y5 L a (by4 W)),SLk SR 2 ty (.ofNat a) s p 4 ins true Q (GL L (Y5 L a (by4 W))) (Y5 L a (by4 W)),pO 45 34394098106368,Zx6 (two k1 k2) hf hr,by kernel_rfl,rfl,Zxy _ _ _ _ _ _ _ _ _ _ _ _,?_⟩
     exact lk2 SR ty s p ins Q h400 hl2 hlc ha (gl1 _ _) (gl2 _ _) (Zg9 (bs:=by4 W) ha) (Zg1 (bs:=by4 W) ha) hm (by rw[q1];exact h0) (by rw[q2];exact e5) (by rw[q1,q2];exact e0) (by rw[q1,q2];exact e1) (by rw[q1,q2];exact e2) (by rw[q1,q2];exact e3) (by rw[q1,q2];exact e4)
theorem Zgy{ty s p:Int}{ins:List UInt8}{Q:RfI}(hf:Zr Tryz.prog gl (Zy 2 ty (Xj ty Q.nm Q.V 4 Q.ck ins)))(hV:Q.V=49)(hK:Q.ck=0)(hr:Zr Tryz.prog gl (Xl 2 ty Q true))(hm:Q.m≠0)(hil:Zv ins≤1000)(hi0:leq ins []=false)(hc:Zbt ins=true)
  {L:List UInt8} {a:Nat} (h400:L.length≤400) (ha:a+4≤L.length):X0 (.ofNat 2) ty L (.ofNat a) s p:=by
 have hf2:=hf
 rw[hV,hK] at hf2
 refine Znx (n:=(Za .i64 (Za .u64 (Int.sub s p)))) (u:=true) hf hr hm hc ?_ ?_ ?_ ?_ ?_ h400 ha
 ·intro L a hn ha hD
  have e4:X4 L a=w4 L a:=Yw (Zt hn) ha
  exact⟨.ofNat 22,rfl,Jz (er:=false) hf2 (Yct SR ty s p Q.nm ins hn ha hi0 (by rw[e4];exact hD))⟩
 ·intro L a hn ha hD hI
  have e4:X4 L a=w4 L a:=Yw (Zt hn) ha
  exact⟨.ofNat 22,rfl,Jz (er:=false) hf2 (Yda SR ty s p Q.nm ins hn ha hil (Qj _) hi0 (by rw[e4];exact hD) (by rw[e4];exact hI))⟩
 ·intro L a hn ha hD hI hG hE
  have e4:X4 L a=w4 L a:=Yw (Zt hn) ha
  exact⟨.ofNat 17,rfl,Jz (er:=true) hf2 (Ycw SR ty s p Q.nm ins hn ha hil (Qj _) hi0 (by rw[e4];exact hD) (by rw[e4];exact hI) (by rw[e4];exact hG) (by rw[e4];exact hE))⟩
 ·intro L a _ _ _ _ _ _ h
  cases h
 ·intro L a hn ha hD hI hG hE _
  have e4:X4 L a=w4 L a:=Yw (Zt hn) ha
  have k:=Yb3 SR ty s p Q.nm ins hn ha hil (Qj _) hi0 (by rw[e4];exact hD) (by rw[e4];exact hI) (by rw[e4];exact hG) (by rw[e4];exact hE)
  rw[e4] at k
  exact Jz (er:=false) hf2 k
theorem Z4a{ty s p:Int}{ins:List UInt8}{Q:RfI}(hf:Zr Tryz.prog gl (Zy 2 ty (Xj ty Q.nm Q.V 4 Q.ck ins)))(hV:Q.V=50)(hK:Q.ck=0)(hr:Zr Tryz.prog gl (Xl 2 ty Q true))(hm:Q.m≠0)(hil:Zv ins≤1000)(hi0:leq ins []=false)(hc:Zbt ins=true)
  {L:List UInt8} {a:Nat} (h400:L.length≤400) (ha:a+4≤L.length):X0 (.ofNat 2) ty L (.ofNat a) s p:=by
 have hf2:=hf
 rw[hV,hK] at hf2
 refine Znx (n:=(Zc (Za .i64 (Za .u64 (Int.sub (Za .u64 (Wk .u64 s (.ofNat 4095))) (Za .u64 (Wk .u64 p (.ofNat 4095)))))) 12)) (u:=true) hf hr hm hc ?_ ?_ ?_ ?_ ?_ h400 ha
 ·intro L a hn ha hD
  have e4:X4 L a=w4 L a:=Yw (Zt hn) ha
  exact⟨.ofNat 22,rfl,Jz (er:=false) hf2 (Z2g SR ty s p Q.nm ins hn ha hi0 (by rw[e4];exact hD))⟩
 ·intro L a hn ha hD hI
  have e4:X4 L a=w4 L a:=Yw (Zt hn) ha
  exact⟨.ofNat 22,rfl,Jz (er:=false) hf2 (Z56 SR ty s p Q.nm ins hn ha hil (Qj _) hi0 (by rw[e4];exact hD) (by rw[e4];exact hI))⟩
 ·intro L a hn ha hD hI hG hE
  have e4:X4 L a=w4 L a:=Yw (Zt hn) ha
  exact⟨.ofNat 17,rfl,Jz (er:=true) hf2 (Z5g SR ty s p Q.nm ins hn ha hil (Qj _) hi0 (by rw[e4];exact hD) (by rw[e4];exact hI) (by rw[e4];exact hG) (by rw[e4];exact hE))⟩
 ·intro L a _ _ _ _ _ _ h
  cases h
 ·intro L a hn ha hD hI hG hE _
  have e4:X4 L a=w4 L a:=Yw (Zt hn) ha
  have k:=Z5k SR ty s p Q.nm ins hn ha hil (Qj _) hi0 (by rw[e4];exact hD) (by rw[e4];exact hI) (by rw[e4];exact hG) (by rw[e4];exact hE)
  rw[e4] at k
  exact Jz (er:=false) hf2 k
theorem Zaf{ty s p:Int}{ins:List UInt8}{Q:RfI}(hf:Zr Tryz.prog gl (Zy 2 ty (Xj ty Q.nm Q.V 4 Q.ck ins)))(hV:Q.V=51)(hK:Q.ck=0)(hr:Zr Tryz.prog gl (Xl 2 ty Q true))(hm:Q.m≠0)(hil:Zv ins≤1000)(hi0:leq ins []=false)(hc:Zbt ins=true)
  {L:List UInt8} {a:Nat} (h400:L.length≤400) (ha:a+4≤L.length):X0 (.ofNat 2) ty L (.ofNat a) s p:=by
 have hf2:=hf
 rw[hV,hK] at hf2
 refine Znx (n:=(Za .i64 (Za .u64 (Ze .u64 s (.ofNat 4095))))) (u:=true) hf hr hm hc ?_ ?_ ?_ ?_ ?_ h400 ha
 ·intro L a hn ha hD
  have e4:X4 L a=w4 L a:=Yw (Zt hn) ha
  exact⟨.ofNat 22,rfl,Jz (er:=false) hf2 (Z5n SR ty s p Q.nm ins hn ha hi0 (by rw[e4];exact hD))⟩
 ·intro L a hn ha hD hI
  have e4:X4 L a=w4 L a:=Yw (Zt hn) ha
  exact⟨.ofNat 22,rfl,Jz (er:=false) hf2 (Z3z SR ty s p Q.nm ins hn ha hil (Qj _) hi0 (by rw[e4];exact hD) (by rw[e4];exact hI))⟩
 ·intro L a hn ha hD hI hG hE
  have e4:X4 L a=w4 L a:=Yw (Zt hn) ha
  exact⟨.ofNat 17,rfl,Jz (er:=true) hf2 (Z32 SR ty s p Q.nm ins hn ha hil (Qj _) hi0 (by rw[e4];exact hD) (by rw[e4];exact hI) (by rw[e4];exact hG) (by rw[e4];exact hE))⟩
 ·intro L a _ _ _ _ _ _ h
  cases h
 ·intro L a hn ha hD hI hG hE _
  have e4:X4 L a=w4 L a:=Yw (Zt hn) ha
  have k:=Z4t SR ty s p Q.nm ins hn ha hil (Qj _) hi0 (by rw[e4];exact hD) (by rw[e4];exact hI) (by rw[e4];exact hG) (by rw[e4];exact hE)
  rw[e4] at k
  exact Jz (er:=false) hf2 k
theorem Z2h{ty s p:Int}{ins:List UInt8}{Q:RfI}(hf:Zr Tryz.prog gl (Zy 2 ty (Xj ty Q.nm Q.V 4 Q.ck ins)))(hV:Q.V=52)(hK:Q.ck=0)(hr:Zr Tryz.prog gl (Xl 2 ty Q true))(hm:Q.m≠0)(hil:Zv ins≤1000)(hi0:leq ins []=false)(hc:Zbt ins=true)
  {L:List UInt8} {a:Nat} (h400:L.length≤400) (ha:a+4≤L.length):X0 (.ofNat 2) ty L (.ofNat a) s p:=by
 have hf2:=hf
 rw[hV,hK] at hf2
 refine Znx (n:=(Za .i64 (Zc s 12))) (u:=Z2 s (.ofNat 16777216)) hf hr hm hc ?_ ?_ ?_ ?_ ?_ h400 ha
 ·intro L a hn ha hD
  have e4:X4 L a=w4 L a:=Yw (Zt hn) ha
  exact⟨.ofNat 22,rfl,Jz (er:=false) hf2 (Z27 SR ty s p Q.nm ins hn ha hi0 (by rw[e4];exact hD))⟩
 ·intro L a hn ha hD hI
  have e4:X4 L a=w4 L a:=Yw (Zt hn) ha
  exact⟨.ofNat 22,rfl,Jz (er:=false) hf2 (Z44 SR ty s p Q.nm ins hn ha hil (Qj _) hi0 (by rw[e4];exact hD) (by rw[e4];exact hI))⟩
 ·intro L a hn ha hD hI hG hE
  have e4:X4 L a=w4 L a:=Yw (Zt hn) ha
  exact⟨.ofNat 17,rfl,Jz (er:=true) hf2 (Z1v SR ty s p Q.nm ins hn ha hil (Qj _) hi0 (by rw[e4];exact hD) (by rw[e4];exact hI) (by rw[e4];exact hG) (by rw[e4];exact hE))⟩
 ·intro L a hn ha hD hI hG hE hu
  have e4:X4 L a=w4 L a:=Yw (Zt hn) ha
  exact⟨.ofNat 17,rfl,Jz (er:=false) hf2 (Z2r SR ty s p Q.nm ins hn ha hil (Qj _) hi0 (by rw[e4];exact hD) (by rw[e4];exact hI) (by rw[e4];exact hG) (by rw[e4];exact hE) hu)⟩
 ·intro L a hn ha hD hI hG hE hu
  have e4:X4 L a=w4 L a:=Yw (Zt hn) ha
  have k:=Z3d SR ty s p Q.nm ins hn ha hil (Qj _) hi0 (by rw[e4];exact hD) (by rw[e4];exact hI) (by rw[e4];exact hG) (by rw[e4];exact hE) hu
  rw[e4] at k
  exact Jz (er:=false) hf2 k
end
end Go.Proofs.YtaakhjmfojoodaaGreatDoor
namespace Go.Proofs.YtaakhjmfojoodaaGreatDoor
open Go Go.Vai
noncomputable section
set_option maxRecDepth 100000
theorem Znn{ty s p n:Int}{ins:List UInt8}{Q:RfI}{u:Bool}(hf:Zr Tryz.prog gl (Zy 3 ty (Xj ty Q.nm Q.V 4 Q.ck ins)))(hr:Zr Tryz.prog gl (Xl 3 ty Q true))(hm:Q.m≠0)(hc:Zcq ins=true)
  (D:∀{L:List UInt8}{a:Nat},L.length<1000000→a+4≤L.length→Zd4 (Js L a)=true→Zd (rvDE (w4 L a)) (.ofNat 0)=false→Za7 3 ty a s p L)
  (C:∀{L:List UInt8}{a:Nat},L.length<1000000→a+4≤L.length→Zd4 (Js L a)=true→Zd (rvDE (w4 L a)) (.ofNat 0)=true→Yq ins (([32]++rvDN (w4 L a))++[32])=false→Za7 3 ty a s p L)
  (E:∀{L:List UInt8}{a:Nat},L.length<1000000→a+4≤L.length→Zd4 (Js L a)=true→Zd (rvDE (w4 L a)) (.ofNat 0)=true→Yq ins (([32]++rvDN (w4 L a))++[32])=true→Zd (SR.rvEx (w4 L a) n) (.ofNat 0)=false→Za7 3 ty a s p L)
  (U:∀{L:List UInt8}{a:Nat},L.length<1000000→a+4≤L.length→Zd4 (Js L a)=true→Zd (rvDE (w4 L a)) (.ofNat 0)=true→Yq ins (([32]++rvDN (w4 L a))++[32])=true→Zd (SR.rvEx (w4 L a) n) (.ofNat 0)=true→u=false→Za7 3 ty a s p L)
  (K:∀{L:List UInt8}{a:Nat},L.length<1000000→a+4≤L.length→Zd4 (Js L a)=true→Zd (rvDE (w4 L a)) (.ofNat 0)=true→Yq ins (([32]++rvDN (w4 L a))++[32])=true→Zd (SR.rvEx (w4 L a) n) (.ofNat 0)=true→u=true→Zab Tryz.prog gl 5 5 (.ofNat 3) ty (.ofNat a) s p L (.ofNat 0) (some (Y5 L a (by4 (SR.rvWx (w4 L a) n)))))
  (CD:∀{L:List UInt8}{a:Nat},L.length<1000000→a+4≤L.length→Zd4 (Js L a)=false→Zd (coDE (w2 L a)) (.ofNat 0)=false→Za7 3 ty a s p L)
  (CC:∀{L:List UInt8}{a:Nat},L.length<1000000→a+4≤L.length→Zd4 (Js L a)=false→Zd (coDE (w2 L a)) (.ofNat 0)=true→Yq ins (([32]++coDN (w2 L a))++[32])=false→Za7 3 ty a s p L)
  {L:List UInt8} {a:Nat} (h400:L.length≤400) (ha:a+4≤L.length):X0 (.ofNat 3) ty L (.ofNat a) s p:=by
 have hn:L.length<1000000:=by omega
 cases hb:Zd4 (Js L a) with
 |false=>
  cases h0:Zd (coDE (w2 L a)) (.ofNat 0) with
  |false=>exact(CD hn ha hb h0).law h400
  |true=>exact(CC hn ha hb h0 (Y9w hc h0)).law h400
 |true=>
  cases h0:Zd (rvDE (w4 L a)) (.ofNat 0) with
  |false=>exact(D hn ha hb h0).law h400
  |true=>
   cases h1:Yq ins (([32]++rvDN (w4 L a))++[32]) with
   |false=>exact(C hn ha hb h0 h1).law h400
   |true=>
    have hG:=insR hc h0 h1
    cases h2:Zd (SR.rvEx (w4 L a) n) (.ofNat 0) with
    |false=>exact(E hn ha hb h0 h1 h2).law h400
    |true=>
     cases hu:u with
     |false=>exact(U hn ha hb h0 h1 h2 hu).law h400
     |true=>
      obtain⟨W,eW,hW,e0,e1,e2,e3,e4,e5⟩:=Ytv (Zzh L a) h0 hG h2
      have k1:=K hn ha hb h0 h1 h2 hu
      rw[show SR.rvWx (w4 L a) n=W from eW] at k1
      have hl2:(Y5 L a (by4 W)).length=L.length:=Z7 ..
      have hn2:(Y5 L a (by4 W)).length<1000000:=by rw[hl2];exact hn
      have ha2:a+4≤(Y5 L a (by4 W)).length:=by rw[hl2];exact ha
      have w2:w4 (Y5 L a (by4 W)) a=W:=Z7r ha hW
      have hb2:Zd4 (Js (Y5 L a (by4 W)) a)=true:=by
       rw[Z8w (bs:=by4 W) (W:=W) ha rfl]
       exact Y35 e5
      have h22:Zd (SR.rvEx W n) (.ofNat 0)=true:=by
       show Zd (rvEE (rvDN W) (rvDA W) (rvDB W) (rvDC W) (rvDD W) n) (.ofNat 0)=true
       rw[e0,e1,e2,e3,e4]
       exact h2
      have k2:=K hn2 ha2 hb2 (by rw[w2];exact e5) (by rw[w2,e0];exact h1) (by rw[w2];exact h22) hu
      have eW2:SR.rvWx W n=W:=by
       show rvEW (rvDN W) (rvDA W) (rvDB W) (rvDC W) (rvDD W) n=W
       rw[e0,e1,e2,e3,e4]
       exact eW
      rw[w2,eW2,Zev (bs:=by4 W) ha] at k2
      have q1:Y6 (bT L) a=w4 L a:=Znw (Zj hn) ha
      have q2:Y6 (bT (Y5 L a (by4 W))) a=W:=(Znw (Zj hn2) ha2).trans w2
      intro c hlc
      refine⟨ELk SR 3 ty (.ofNat a) s p 4 ins true Q (GL L (Y5 L a (by4 W))) (Y5 L a (by4 W)),SLk SR 3 ty (.ofNat a) s p 4 ins true Q (GL L (Y5 L a (by4 W))) (Y5 L a (by4 W)),pO 61 2233926221383598080,Zx6 (two k1 k2) hf hr,by kernel_rfl,rfl,Zxy _ _ _ _ _ _ _ _ _ _ _ _,?_⟩
      exact lkr SR ty s p ins Q h400 hl2 hlc ha (gl1 _ _) (gl2 _ _) (Zg9 (bs:=by4 W) ha) (Zg1 (bs:=by4 W) ha) hm (by rw[Zns hn (show a<_ by omega)];exact hb) (by rw[Zns hn2 (show a<_ by omega)];exact hb2) (by rw[q1];exact h0) (by rw[q2];exact e5) (by rw[q1,q2];exact e0) (by rw[q1,q2];exact e1) (by rw[q1,q2];exact e2) (by rw[q1,q2];exact e3) (by rw[q1,q2];exact e4)
theorem Zse{ty s p:Int}{ins:List UInt8}{Q:RfI}(hf:Zr Tryz.prog gl (Zy 3 ty (Xj ty Q.nm Q.V 4 Q.ck ins)))(hV:Q.V=49)(hK:Q.ck=0)(hr:Zr Tryz.prog gl (Xl 3 ty Q true))(hm:Q.m≠0)(hil:Zv ins≤1000)(hi0:leq ins []=false)(hc:Zcq ins=true)
  {L:List UInt8} {a:Nat} (h400:L.length≤400) (ha:a+4≤L.length):X0 (.ofNat 3) ty L (.ofNat a) s p:=by
 have hf2:=hf
 rw[hV,hK] at hf2
 refine Znn (n:=(Za .i64 (Za .u64 (Int.sub s p)))) (u:=true) hf hr hm hc ?_ ?_ ?_ ?_ ?_ ?_ ?_ h400 ha
 ·intro L a hn ha hb hD
  have e4:X4 L a=w4 L a:=Yw (Zt hn) ha
  have eb:X1 L a=Js L a:=X7 (a:=a) hn (show a<_ by omega)
  exact⟨.ofNat 22,rfl,Jz (er:=false) hf2 (Ycm SR ty s p Q.nm ins hn ha hi0 (by rw[eb];exact hb) (by rw[e4];exact hD))⟩
 ·intro L a hn ha hb hD hI
  have e4:X4 L a=w4 L a:=Yw (Zt hn) ha
  have eb:X1 L a=Js L a:=X7 (a:=a) hn (show a<_ by omega)
  exact⟨.ofNat 22,rfl,Jz (er:=false) hf2 (Yem SR ty s p Q.nm ins hn ha hil (Qk _) hi0 (by rw[eb];exact hb) (by rw[e4];exact hD) (by rw[e4];exact hI))⟩
 ·intro L a hn ha hb hD hI hE
  have e4:X4 L a=w4 L a:=Yw (Zt hn) ha
  have eb:X1 L a=Js L a:=X7 (a:=a) hn (show a<_ by omega)
  exact⟨.ofNat 17,rfl,Jz (er:=true) hf2 (Z94 SR ty s p Q.nm ins hn ha hil (Qk _) (by rw[e4];exact(Zff hD)) hi0 (by rw[eb];exact hb) (by rw[e4];exact hD) (by rw[e4];exact hI) (by rw[e4];exact(Zfm hD)) (by rw[e4];exact hE))⟩
 ·intro L a _ _ _ _ _ _ h
  cases h
 ·intro L a hn ha hb hD hI hE _
  have e4:X4 L a=w4 L a:=Yw (Zt hn) ha
  have eb:X1 L a=Js L a:=X7 (a:=a) hn (show a<_ by omega)
  have k:=Ycr SR ty s p Q.nm ins hn ha hil (Qk _) (by rw[e4];exact(Zff hD)) hi0 (by rw[eb];exact hb) (by rw[e4];exact hD) (by rw[e4];exact hI) (by rw[e4];exact(Zfm hD)) (by rw[e4];exact hE)
  rw[e4] at k
  exact Jz (er:=false) hf2 k
 ·intro L a hn ha hb hD
  have e2:X2 L a=w2 L a:=J8 (a:=a) (Zt hn) (show a+2≤_ by omega)
  have eb:X1 L a=Js L a:=X7 (a:=a) hn (show a<_ by omega)
  exact⟨.ofNat 22,rfl,Jz (er:=false) hf2 (Z6e SR ty s p Q.nm ins hn ha hi0 (by rw[eb];exact hb) (by rw[e2];exact hD))⟩
 ·intro L a hn ha hb hD hI
  have e2:X2 L a=w2 L a:=J8 (a:=a) (Zt hn) (show a+2≤_ by omega)
  have eb:X1 L a=Js L a:=X7 (a:=a) hn (show a<_ by omega)
  exact⟨.ofNat 22,rfl,Jz (er:=false) hf2 (Z6x SR ty s p Q.nm ins hn ha hil (Zcv _) hi0 (by rw[eb];exact hb) (by rw[e2];exact hD) (by rw[e2];exact hI))⟩
theorem Zt6{ty s p:Int}{ins:List UInt8}{Q:RfI}(hf:Zr Tryz.prog gl (Zy 3 ty (Xj ty Q.nm Q.V 4 Q.ck ins)))(hV:Q.V=53)(hK:Q.ck=0)(hr:Zr Tryz.prog gl (Xl 3 ty Q true))(hm:Q.m≠0)(hil:Zv ins≤1000)(hi0:leq ins []=false)(hc:Zcq ins=true)
  {L:List UInt8} {a:Nat} (h400:L.length≤400) (ha:a+4≤L.length):X0 (.ofNat 3) ty L (.ofNat a) s p:=by
 have hf2:=hf
 rw[hV,hK] at hf2
 refine Znn (n:=(Zc (Za .i64 (Za .u64 (Int.sub s (Za .u64 (Zc (Za .i64 (Za .u64 (Zf s 52))) 52))))) 12)) (u:=true) hf hr hm hc ?_ ?_ ?_ ?_ ?_ ?_ ?_ h400 ha
 ·intro L a hn ha hb hD
  have e4:X4 L a=w4 L a:=Yw (Zt hn) ha
  have eb:X1 L a=Js L a:=X7 (a:=a) hn (show a<_ by omega)
  exact⟨.ofNat 22,rfl,Jz (er:=false) hf2 (Yab SR ty s p Q.nm ins hn ha hi0 (by rw[eb];exact hb) (by rw[e4];exact hD))⟩
 ·intro L a hn ha hb hD hI
  have e4:X4 L a=w4 L a:=Yw (Zt hn) ha
  have eb:X1 L a=Js L a:=X7 (a:=a) hn (show a<_ by omega)
  exact⟨.ofNat 22,rfl,Jz (er:=false) hf2 (Ybs SR ty s p Q.nm ins hn ha hil (Qk _) hi0 (by rw[eb];exact hb) (by rw[e4];exact hD) (by rw[e4];exact hI))⟩
 ·intro L a hn ha hb hD hI hE
  have e4:X4 L a=w4 L a:=Yw (Zt hn) ha
  have eb:X1 L a=Js L a:=X7 (a:=a) hn (show a<_ by omega)
  exact⟨.ofNat 17,rfl,Jz (er:=true) hf2 (Yew SR ty s p Q.nm ins hn ha hil (Qk _) (by rw[e4];exact(Zff hD)) hi0 (by rw[eb];exact hb) (by rw[e4];exact hD) (by rw[e4];exact hI) (by rw[e4];exact(Zfm hD)) (by rw[e4];exact hE))⟩
 ·intro L a _ _ _ _ _ _ h
  cases h
 ·intro L a hn ha hb hD hI hE _
  have e4:X4 L a=w4 L a:=Yw (Zt hn) ha
  have eb:X1 L a=Js L a:=X7 (a:=a) hn (show a<_ by omega)
  have k:=Ydz SR ty s p Q.nm ins hn ha hil (Qk _) (by rw[e4];exact(Zff hD)) hi0 (by rw[eb];exact hb) (by rw[e4];exact hD) (by rw[e4];exact hI) (by rw[e4];exact(Zfm hD)) (by rw[e4];exact hE)
  rw[e4] at k
  exact Jz (er:=false) hf2 k
 ·intro L a hn ha hb hD
  have e2:X2 L a=w2 L a:=J8 (a:=a) (Zt hn) (show a+2≤_ by omega)
  have eb:X1 L a=Js L a:=X7 (a:=a) hn (show a<_ by omega)
  exact⟨.ofNat 22,rfl,Jz (er:=false) hf2 (Z2u SR ty s p Q.nm ins hn ha hi0 (by rw[eb];exact hb) (by rw[e2];exact hD))⟩
 ·intro L a hn ha hb hD hI
  have e2:X2 L a=w2 L a:=J8 (a:=a) (Zt hn) (show a+2≤_ by omega)
  have eb:X1 L a=Js L a:=X7 (a:=a) hn (show a<_ by omega)
  exact⟨.ofNat 22,rfl,Jz (er:=false) hf2 (Z3g SR ty s p Q.nm ins hn ha hil (Zcv _) hi0 (by rw[eb];exact hb) (by rw[e2];exact hD) (by rw[e2];exact hI))⟩
theorem Zrk{ty s p:Int}{ins:List UInt8}{Q:RfI}(hf:Zr Tryz.prog gl (Zy 3 ty (Xj ty Q.nm Q.V 4 Q.ck ins)))(hV:Q.V=54)(hK:Q.ck=0)(hr:Zr Tryz.prog gl (Xl 3 ty Q true))(hm:Q.m≠0)(hil:Zv ins≤1000)(hi0:leq ins []=false)(hc:Zcq ins=true)
  {L:List UInt8} {a:Nat} (h400:L.length≤400) (ha:a+4≤L.length):X0 (.ofNat 3) ty L (.ofNat a) s p:=by
 have hf2:=hf
 rw[hV,hK] at hf2
 refine Znn (n:=(Zc (Za .i64 (Za .u64 (Int.sub (Za .u64 (Int.sub s p)) (Za .u64 (Zc (Za .i64 (Za .u64 (Zf (Za .u64 (Int.sub s p)) 52))) 52))))) 12)) (u:=true) hf hr hm hc ?_ ?_ ?_ ?_ ?_ ?_ ?_ h400 ha
 ·intro L a hn ha hb hD
  have e4:X4 L a=w4 L a:=Yw (Zt hn) ha
  have eb:X1 L a=Js L a:=X7 (a:=a) hn (show a<_ by omega)
  exact⟨.ofNat 22,rfl,Jz (er:=false) hf2 (Zrf SR ty s p Q.nm ins hn ha hi0 (by rw[eb];exact hb) (by rw[e4];exact hD))⟩
 ·intro L a hn ha hb hD hI
  have e4:X4 L a=w4 L a:=Yw (Zt hn) ha
  have eb:X1 L a=Js L a:=X7 (a:=a) hn (show a<_ by omega)
  exact⟨.ofNat 22,rfl,Jz (er:=false) hf2 (Zq3 SR ty s p Q.nm ins hn ha hil (Qk _) hi0 (by rw[eb];exact hb) (by rw[e4];exact hD) (by rw[e4];exact hI))⟩
 ·intro L a hn ha hb hD hI hE
  have e4:X4 L a=w4 L a:=Yw (Zt hn) ha
  have eb:X1 L a=Js L a:=X7 (a:=a) hn (show a<_ by omega)
  exact⟨.ofNat 17,rfl,Jz (er:=true) hf2 (Zrc SR ty s p Q.nm ins hn ha hil (Qk _) (by rw[e4];exact(Zff hD)) hi0 (by rw[eb];exact hb) (by rw[e4];exact hD) (by rw[e4];exact hI) (by rw[e4];exact(Zfm hD)) (by rw[e4];exact hE))⟩
 ·intro L a _ _ _ _ _ _ h
  cases h
 ·intro L a hn ha hb hD hI hE _
  have e4:X4 L a=w4 L a:=Yw (Zt hn) ha
  have eb:X1 L a=Js L a:=X7 (a:=a) hn (show a<_ by omega)
  have k:=Zqo SR ty s p Q.nm ins hn ha hil (Qk _) (by rw[e4];exact(Zff hD)) hi0 (by rw[eb];exact hb) (by rw[e4];exact hD) (by rw[e4];exact hI) (by rw[e4];exact(Zfm hD)) (by rw[e4];exact hE)
  rw[e4] at k
  exact Jz (er:=false) hf2 k
 ·intro L a hn ha hb hD
  have e2:X2 L a=w2 L a:=J8 (a:=a) (Zt hn) (show a+2≤_ by omega)
  have eb:X1 L a=Js L a:=X7 (a:=a) hn (show a<_ by omega)
  exact⟨.ofNat 22,rfl,Jz (er:=false) hf2 (Zof SR ty s p Q.nm ins hn ha hi0 (by rw[eb];exact hb) (by rw[e2];exact hD))⟩
 ·intro L a hn ha hb hD hI
  have e2:X2 L a=w2 L a:=J8 (a:=a) (Zt hn) (show a+2≤_ by omega)
  have eb:X1 L a=Js L a:=X7 (a:=a) hn (show a<_ by omega)
  exact⟨.ofNat 22,rfl,Jz (er:=false) hf2 (Zp6 SR ty s p Q.nm ins hn ha hil (Zcv _) hi0 (by rw[eb];exact hb) (by rw[e2];exact hD) (by rw[e2];exact hI))⟩
theorem Zd9{ty s p:Int}{ins:List UInt8}{Q:RfI}(hf:Zr Tryz.prog gl (Zy 3 ty (Xj ty Q.nm Q.V 4 Q.ck ins)))(hV:Q.V=55)(hK:Q.ck=0)(hr:Zr Tryz.prog gl (Xl 3 ty Q true))(hm:Q.m≠0)(hil:Zv ins≤1000)(hi0:leq ins []=false)(hc:Zcq ins=true)
  {L:List UInt8} {a:Nat} (h400:L.length≤400) (ha:a+4≤L.length):X0 (.ofNat 3) ty L (.ofNat a) s p:=by
 have hf2:=hf
 rw[hV,hK] at hf2
 refine Znn (n:=(Zc (Za .i64 (Za .u64 (Zf s 52))) 52)) (u:=true) hf hr hm hc ?_ ?_ ?_ ?_ ?_ ?_ ?_ h400 ha
 ·intro L a hn ha hb hD
  have e4:X4 L a=w4 L a:=Yw (Zt hn) ha
  have eb:X1 L a=Js L a:=X7 (a:=a) hn (show a<_ by omega)
  exact⟨.ofNat 22,rfl,Jz (er:=false) hf2 (Yh1 SR ty s p Q.nm ins hn ha hi0 (by rw[eb];exact hb) (by rw[e4];exact hD))⟩
 ·intro L a hn ha hb hD hI
  have e4:X4 L a=w4 L a:=Yw (Zt hn) ha
  have eb:X1 L a=Js L a:=X7 (a:=a) hn (show a<_ by omega)
  exact⟨.ofNat 22,rfl,Jz (er:=false) hf2 (Yq8 SR ty s p Q.nm ins hn ha hil (Qk _) hi0 (by rw[eb];exact hb) (by rw[e4];exact hD) (by rw[e4];exact hI))⟩
 ·intro L a hn ha hb hD hI hE
  have e4:X4 L a=w4 L a:=Yw (Zt hn) ha
  have eb:X1 L a=Js L a:=X7 (a:=a) hn (show a<_ by omega)
  exact⟨.ofNat 17,rfl,Jz (er:=true) hf2 (Yow SR ty s p Q.nm ins hn ha hil (Qk _) (by rw[e4];exact(Zff hD)) hi0 (by rw[eb];exact hb) (by rw[e4];exact hD) (by rw[e4];exact hI) (by rw[e4];exact(Zfm hD)) (by rw[e4];exact hE))⟩
 ·intro L a _ _ _ _ _ _ h
  cases h
 ·intro L a hn ha hb hD hI hE _
  have e4:X4 L a=w4 L a:=Yw (Zt hn) ha
  have eb:X1 L a=Js L a:=X7 (a:=a) hn (show a<_ by omega)
  have k:=Ypc SR ty s p Q.nm ins hn ha hil (Qk _) (by rw[e4];exact(Zff hD)) hi0 (by rw[eb];exact hb) (by rw[e4];exact hD) (by rw[e4];exact hI) (by rw[e4];exact(Zfm hD)) (by rw[e4];exact hE)
  rw[e4] at k
  exact Jz (er:=false) hf2 k
 ·intro L a hn ha hb hD
  have e2:X2 L a=w2 L a:=J8 (a:=a) (Zt hn) (show a+2≤_ by omega)
  have eb:X1 L a=Js L a:=X7 (a:=a) hn (show a<_ by omega)
  exact⟨.ofNat 22,rfl,Jz (er:=false) hf2 (Yb2 SR ty s p Q.nm ins hn ha hi0 (by rw[eb];exact hb) (by rw[e2];exact hD))⟩
 ·intro L a hn ha hb hD hI
  have e2:X2 L a=w2 L a:=J8 (a:=a) (Zt hn) (show a+2≤_ by omega)
  have eb:X1 L a=Js L a:=X7 (a:=a) hn (show a<_ by omega)
  exact⟨.ofNat 22,rfl,Jz (er:=false) hf2 (Ybc SR ty s p Q.nm ins hn ha hil (Zcv _) hi0 (by rw[eb];exact hb) (by rw[e2];exact hD) (by rw[e2];exact hI))⟩
end
end Go.Proofs.YtaakhjmfojoodaaGreatDoor
