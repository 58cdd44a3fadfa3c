/- foundrylaw16.begun answers true: by the interpreter, run by the kernel (strings.Contains and reloc.Data by what they answer). -/
import Derived.Test.YtaakhjmfojoodaaGreatDoorRfFit
namespace Go.Proofs.YtaakhjmfojoodaaGreatDoor
open Go Go.Vai
set_option maxRecDepth 100000
noncomputable def EB : Env := Q0 Tryz.prog 12 [21, 11] (Z9 (Vy kinds) (Z9 (Jm 21) Z5q))
theorem Y8p(w:World)(hw:Z4 gl w):EnvOk EB Tryz.prog (Kept gl w):=Xv (by kernel_rfl) ((Xx V4).or (Zbi.or Yuy)) Xw (fun _ _ _ h=>h.1) (Zz hw).ext
theorem Yrt:(EB.fn 4).isSome=true:=by kernel_rfl
theorem Z97:TRes.isB true (Z2p EB 100000 (.call 4 [] (Yc 12 gl)))=true:=by kernel_rfl
theorem Zgx:∀ w,Z4 gl w→(callFunc 4 #[]).run Tryz.prog w=.ok (.enter 4 #[]) w∧Calls Tryz.prog 4 #[] w fun e w'=>e=.returned (.bool true)∧Keeps w w':=by
 intro w hw
 have h:=Z97
 rw[Zgl] at h
 have h2:∃ H1,run EB 100000 (.call 4 [] (Yc 12 gl))=some (.call (.ret (.bool true) H1)):=by
  unfold TRes.isB at h
  split at h
  ·rename_i b H1 e
   simp only[beq_iff_eq] at h
   subst h
   exact⟨H1,e⟩
  ·cases h
 obtain⟨H1,h2⟩:=h2
 obtain⟨a,b⟩:=Zbk (args:=[]) (cargs:=[]) (E:=EB) Y8p Ww Yrt trivial h2 w hw
 refine⟨a,Calls.mono (callsIn_wide.1 b) ?_⟩
 rintro e w' ⟨cv,v,H,M,rfl,_,kp,hv,rfl,rfl⟩
 simp only[Zm] at hv
 exact⟨by rw[hv],kp.2.1⟩
end Go.Proofs.YtaakhjmfojoodaaGreatDoor
namespace Go.Proofs.YtaakhjmfojoodaaGreatDoor
open Go Go.Vai
noncomputable section
set_option maxRecDepth 100000
def Y9f(E:Env)(sk:Smk AV)(t ty:Int)(c n:Nat)(T:Tr AV)(a:Nat)(s p:Int)(o:Ql):Option AV:=W2 E sk Qe 100000 (.call 3 [.int .i64 t,.int .i64 ty,.sl 12 0 n (some c),.int .i64 (.ofNat a),.int .u64 s,.int .u64 p] (Xm 12 [.cells n T 0 none 0 true false])) o jK
structure RfI where
 (nm:List UInt8)
 (V ck:Nat)
 (rn:List UInt8)
 (rv rb rc:Int)
 (m:Nat)
 (T9:Tr AV)
theorem Zil(a:Nat):at1 a=a:=by
 show 0+a*1=a
 omega
def rfR(ty:Int)(Q:RfI)(imm:Bool)(H:AHeap):AV×AHeap:=bif imm then(.tup [.agg [.int .i64 ty,.str Q.rn,.int .u8 Q.rv,.int .i64 Q.rb,.int .u8 Q.rc,.sl H.next 0 Q.m (some Q.m)],.bool true],news H [.cells Q.m Q.T9 9 none 0 false false]) else(.tup [.agg [.int .i64 ty,.str Q.rn,.int .u8 Q.rv,.int .i64 Q.rb,.int .u8 Q.rc,.nils],.bool true],H)
def Xl(t:Nat)(ty:Int)(Q:RfI)(imm:Bool):Sm:=fun f args H=>match args with
 |[.int .i64 t',.int .i64 ty']=>bif Nat.beq f 7&&(Zd t' (.ofNat t)&&Zd ty' ty) then some (rfR ty Q imm H) else none
 |_=>none
def rfK{α:Type}(t:Nat)(ty:Int)(Q:RfI)(imm:Bool)(args:List AV)(H:AHeap)(k:AV→AHeap→Option α):Option α:=match args with
 |[.int .i64 t',.int .i64 ty']=>bc (Zd t' (.ofNat t)) (bc (Zd ty' ty) (k (rfR ty Q imm H).1 (rfR ty Q imm H).2) none) none
 |_=>none
theorem Ylp{α:Type}{f:Nat}{t:Nat}{ty:Int}{Q:RfI}{imm:Bool}{args:List AV}{H:AHeap}{k:AV→AHeap→Option α}{r:α}(h:rfK t ty Q imm args H k=some r)(hf:f=7):∃ u H',Xl t ty Q imm f args H=some (u,H')∧k u H'=some r:=by
 subst hf
 unfold rfK at h
 split at h
 case h_2=>cases h
 obtain⟨h1,h⟩:=Zo h
 obtain⟨h2,h⟩:=Zo h
 exact⟨_,_,by simp only[Xl,Nat.beq_refl,h1,h2,Bool.and_self,cond_true],h⟩
theorem Yfo{t:Nat}{ty:Int}{Q:RfI}{imm:Bool}{d:Done}(hd:Zr Tryz.prog gl (Zk d))(hq:∀ H,Zk d 7 [.int .i64 (.ofNat t),.int .i64 ty] H=some (rfR ty Q imm H)):Zr Tryz.prog gl (Xl t ty Q imm):=by
 intro f args H v H' M w cargs hs
 refine hd f args H v H' M w cargs ?_
 unfold Xl at hs
 split at hs
 case h_2=>cases hs
 rename_i t' ty'
 rw[Bool.cond_eq_ite] at hs
 split at hs
 case isFalse=>cases hs
 rename_i hc
 simp only[Bool.and_eq_true,Nat.beq_eq,Ya,decide_eq_true_eq] at hc
 obtain⟨rfl,rfl,rfl⟩:=hc
 exact(hq H).trans hs
theorem Yqp{t:Nat}{ty:Int}{v:AV}{d:Done}(hd:Zr Tryz.prog gl (Zk d))(hq:∀ H,Zk d 14 [.int .i64 (.ofNat t),.int .i64 ty] H=some (.tup [v,.bool true],H)):Zr Tryz.prog gl (Zy t ty v):=by
 intro f args H v' H' M w cargs hs
 refine hd f args H v' H' M w cargs ?_
 unfold Zy at hs
 split at hs
 case h_2=>cases hs
 rename_i t' ty'
 rw[Bool.cond_eq_ite] at hs
 split at hs
 case isFalse=>cases hs
 rename_i hc
 simp only[Bool.and_eq_true,Nat.beq_eq,Ya,decide_eq_true_eq] at hc
 obtain⟨rfl,rfl,rfl⟩:=hc
 exact(hq H).trans hs
theorem Zj2{f e g:Nat}{t ty a s p:Int}{G:List UInt8→Bool}{L:List UInt8}(h:g≠f)(args:List AV)(H:AHeap):Zfh f e t ty a s p G L g args H=none:=by
 unfold Zfh
 split
 ·rw[Zxk h];rfl
 ·rfl
theorem Znk{g t:Nat}{ty:Int}{v:AV}(h:g≠14)(args:List AV)(H:AHeap):Zy t ty v g args H=none:=by
 unfold Zy
 split
 ·rw[Zxk h];rfl
 ·rfl
theorem Yog{g t:Nat}{ty:Int}{Q:RfI}{imm:Bool}(h:g≠7)(args:List AV)(H:AHeap):Xl t ty Q imm g args H=none:=by
 unfold Xl
 split
 ·rw[Zxk h];rfl
 ·rfl
def ELk(S:RfS)(t:Nat)(ty a s p:Int)(size:Nat)(ins:List UInt8)(imm:Bool)(Q:RfI)(G:List UInt8→Bool)(L2:List UInt8):Env:=Q0 Tryz.prog 12 [5,14,7,40,71,70,4] (Z9 (Zfh 5 5 (.ofNat t) ty a s p G L2) (Z9 (Zy t ty (Xj ty Q.nm Q.V size Q.ck ins)) (Z9 (Xl t ty Q imm) (Z9 (Ze5 40 S.arU) (Z9 (Ze5 71 S.rvU) (Z9 (Zl2 70 S.coU) (Z9 (Zm1 4 true) (Vy kinds))))))))
theorem Zlk(S:RfS)(t:Nat)(ty a s p:Int)(size:Nat)(ins:List UInt8)(imm:Bool)(Q:RfI)(G:List UInt8→Bool)(L2:List UInt8):(ELk S t ty a s p size ins imm Q G L2).sm=(Z9 (Zfh 5 5 (.ofNat t) ty a s p G L2) (Z9 (Zy t ty (Xj ty Q.nm Q.V size Q.ck ins)) (Z9 (Xl t ty Q imm) (Z9 (Ze5 40 S.arU) (Z9 (Ze5 71 S.rvU) (Z9 (Zl2 70 S.coU) (Z9 (Zm1 4 true) (Vy kinds)))))))):=rfl
def SLk(S:RfS)(t:Nat)(ty a s p:Int)(size:Nat)(ins:List UInt8)(imm:Bool)(Q:RfI)(G:List UInt8→Bool)(L2:List UInt8):Smk AV:=fun f args H k=>bif Nat.beq f 5 then Yh9 5 (.ofNat t) ty a s p G L2 args H k else bif Nat.beq f 14 then Z0z t ty (Xj ty Q.nm Q.V size Q.ck ins) args H k else bif Nat.beq f 7 then rfK t ty Q imm args H k else bif Nat.beq f 40 then Zpr S.arU args H k else bif Nat.beq f 71 then Zpr S.rvU args H k else bif Nat.beq f 70 then Z1b S.coU args H k else smC (ELk S t ty a s p size ins imm Q G L2) f args H k
theorem Zxy(S:RfS)(t:Nat)(ty a s p:Int)(size:Nat)(ins:List UInt8)(imm:Bool)(Q:RfI)(G:List UInt8→Bool)(L2:List UInt8):Qp (ELk S t ty a s p size ins imm Q G L2) (SLk S t ty a s p size ins imm Q G L2):=by
 intro f args H k r h
 unfold SLk at h
 simp only[Bool.cond_eq_ite,Nat.beq_eq] at h
 split at h
 ·rename_i e
  subst e
  obtain⟨u,H',h1,h2⟩:=Z3w (f:=5) (e:=5) h
  refine⟨u,H',?_,h2⟩
  rw[Zlk]
  exact Wh h1
 split at h
 ·rename_i e
  subst e
  obtain⟨u,H',h1,h2⟩:=Zie h
  refine⟨u,H',?_,h2⟩
  rw[Zlk]
  exact(Zs (Zj2 (by decide) args H)).trans (Wh h1)
 split at h
 ·rename_i e
  subst e
  obtain⟨u,H',h1,h2⟩:=Ylp (f:=7) h rfl
  refine⟨u,H',?_,h2⟩
  rw[Zlk]
  exact(Zs (Zj2 (by decide) args H)).trans ((Zs (Znk (by decide) args H)).trans (Wh h1))
 split at h
 ·rename_i e
  subst e
  obtain⟨u,H',h1,h2⟩:=Zcl (f:=40) h
  refine⟨u,H',?_,h2⟩
  rw[Zlk]
  exact(Zs (Zj2 (by decide) args H)).trans ((Zs (Znk (by decide) args H)).trans ((Zs (Yog (by decide) args H)).trans (Wh h1)))
 split at h
 ·rename_i e
  subst e
  obtain⟨u,H',h1,h2⟩:=Zcl (f:=71) h
  refine⟨u,H',?_,h2⟩
  rw[Zlk]
  exact(Zs (Zj2 (by decide) args H)).trans ((Zs (Znk (by decide) args H)).trans ((Zs (Yog (by decide) args H)).trans ((Zs (Ws (by decide) args H)).trans (Wh h1))))
 split at h
 ·rename_i e
  subst e
  obtain⟨u,H',h1,h2⟩:=Zij (f:=70) h
  refine⟨u,H',?_,h2⟩
  rw[Zlk]
  exact(Zs (Zj2 (by decide) args H)).trans ((Zs (Znk (by decide) args H)).trans ((Zs (Yog (by decide) args H)).trans ((Zs (Ws (by decide) args H)).trans ((Zs (Ws (by decide) args H)).trans (Wh h1)))))
 exact W8 _ _ _ _ _ _ h
def EEr(t ty a s p x:Int)(G:List UInt8→Bool):Env:=Q0 Tryz.prog 12 [5,4] (Z9 (Zl8 5 t ty a s p x G) (Z9 (Zm1 4 true) (Vy kinds)))
theorem Y2z(t ty a s p x:Int)(G:List UInt8→Bool):(EEr t ty a s p x G).sm=Z9 (Zl8 5 t ty a s p x G) (Z9 (Zm1 4 true) (Vy kinds)):=rfl
def SEr(t ty a s p x:Int)(G:List UInt8→Bool):Smk AV:=fun f args H k=>bif Nat.beq f 5 then Ymb t ty a s p x G args H k else smC (EEr t ty a s p x G) f args H k
theorem Y01(t ty a s p x:Int)(G:List UInt8→Bool):Qp (EEr t ty a s p x G) (SEr t ty a s p x G):=by
 intro f args H k r h
 unfold SEr at h
 simp only[Bool.cond_eq_ite,Nat.beq_eq] at h
 split at h
 ·rename_i e
  subst e
  obtain⟨u,H',h1,h2⟩:=Z23 (f:=5) h
  refine⟨u,H',?_,h2⟩
  rw[Y2z]
  exact Wh h1
 exact W8 _ _ _ _ _ _ h
end
end Go.Proofs.YtaakhjmfojoodaaGreatDoor
namespace Go.Proofs.YtaakhjmfojoodaaGreatDoor
open Go Go.Vai
noncomputable section
set_option maxRecDepth 100000
def EPl:Env:=Q0 Tryz.prog 12 [15] (Vy kinds)
theorem Yke(w:World)(hw:Z4 gl w):EnvOk EPl Tryz.prog (Kept gl w):=Xv (by kernel_rfl) (Xx V4) Xw (fun _ _ _ h=>h.1) (Zz hw).ext
def Y2r(n:Nat)(a:Int)(sz:Nat):Option (Int×Option (List AV)):=bc (Z2 a (.ofNat 0)) (some (.ofNat 5,none)) (bc (Z2 (.ofNat n) a) (some (.ofNat 5,none)) (bc (Z2 (Za .i64 (Int.sub (.ofNat n) a)) (.ofNat sz)) (some (.ofNat 5,none)) none))
def Z24(n:Nat)(a ty:Int):List (Nat×Nat)→Option (Int×Option (List AV)):=List.rec (motive:=fun _=>Option (Int×Option (List AV))) (some (.ofNat 16,none)) fun x _ ih=>bc (Zd (.ofNat x.1) ty) (Y2r n a x.2) ih
def V7:Nat→List (Nat×Nat)
 |1=>[(1,8),(2,4),(4,4),(10,4),(11,4),(23,4),(15,1)]
 |2=>[(257,8),(258,4),(261,4),(274,4),(275,4),(277,4),(551,4),(549,4),(278,4),(284,4),(285,4),(286,4),(280,4),(282,4),(283,4)]
 |3=>[(1,4),(2,8),(57,4),(16,4),(17,4),(44,2),(45,2),(26,4),(29,4),(23,4),(27,4),(28,4),(30,4),(31,4),(24,4),(25,4)]
 |_=>[]
theorem Y91(ty a s p:Int)(c n0 n:Nat)(T:Tr AV):W2 EPl (smC EPl) Qe 100000 (.call 5 [.int .i64 (.ofNat 1),.int .i64 ty,.sl 12 0 n (some c),.int .i64 a,.int .u64 s,.int .u64 p] (Xm 12 [.cells n0 T 0 none 0 true false])) [] (kAp 5)=Z24 n a ty (V7 1):=by kernel_rfl
theorem apPl2(ty a s p:Int)(c n0 n:Nat)(T:Tr AV):W2 EPl (smC EPl) Qe 100000 (.call 5 [.int .i64 (.ofNat 2),.int .i64 ty,.sl 12 0 n (some c),.int .i64 a,.int .u64 s,.int .u64 p] (Xm 12 [.cells n0 T 0 none 0 true false])) [] (kAp 5)=Z24 n a ty (V7 2):=by kernel_rfl
theorem Y7w(ty a s p:Int)(c n0 n:Nat)(T:Tr AV):W2 EPl (smC EPl) Qe 100000 (.call 5 [.int .i64 (.ofNat 3),.int .i64 ty,.sl 12 0 n (some c),.int .i64 a,.int .u64 s,.int .u64 p] (Xm 12 [.cells n0 T 0 none 0 true false])) [] (kAp 5)=Z24 n a ty (V7 3):=by kernel_rfl
theorem Y8x(t ty a s p:Int)(c n0 n:Nat)(T:Tr AV):W2 EPl (smC EPl) Qe 100000 (.call 5 [.int .i64 t,.int .i64 ty,.sl 12 0 n (some c),.int .i64 a,.int .u64 s,.int .u64 p] (Xm 12 [.cells n0 T 0 none 0 true false])) [false,false,false] (kAp 5)=bc (Zd t (.ofNat 1)) none (bc (Zd t (.ofNat 2)) none (bc (Zd t (.ofNat 3)) none (some (.ofNat 11,none)))):=by kernel_rfl
theorem Zta{n:Nat}{a ty:Int}:∀{l:List (Nat×Nat)},l.find? (fun x=>Zd (.ofNat x.1) ty)=none→Z24 n a ty l=some (.ofNat 16,none)
 |[],_=>rfl
 |x::l,h=>by
  simp only[List.find?] at h
  split at h
  ·cases h
  ·rename_i e
   exact(Zg e (Zta h))
theorem Z63{n:Nat}{a ty:Int}{y:Nat×Nat}:∀{l:List (Nat×Nat)},l.find? (fun x=>Zd (.ofNat x.1) ty)=some y→Z24 n a ty l=Y2r n a y.2
 |x::l,h=>by
  simp only[List.find?] at h
  split at h
  ·rename_i e
   cases h
   exact(Zb e rfl)
  ·rename_i e
   exact(Zg e (Z63 h))
theorem Z38{n sz:Nat}{a:Int}(hn:n<1000000):Y2r n a sz=some (.ofNat 5,none)∨∃ b:Nat,a=.ofNat b∧b+sz≤n:=by
 cases a with
 |negSucc b=>exact .inl (Zb rfl rfl)
 |ofNat b=>
  rcases Nat.lt_or_ge n b with h|h
  ·exact .inl (Zg (K6 (Nat.zero_le _)) (Zb (Vq h) rfl))
  ·rcases Nat.lt_or_ge n (b+sz) with h2|h2
   ·exact .inl (Zg (K6 (Nat.zero_le _)) (Zg (K6 h) (Zb (Zxx h2 h (by omega)) rfl)))
   ·exact .inr ⟨b,rfl,h2⟩
theorem Z2v{t:Nat}{ty a s p:Int}{L:List UInt8}(hL:L.length<1000000)(key:∀ c n0 n (T:Tr AV),W2 EPl (smC EPl) Qe 100000 (.call 5 [.int .i64 (.ofNat t),.int .i64 ty,.sl 12 0 n (some c),.int .i64 a,.int .u64 s,.int .u64 p] (Xm 12 [.cells n0 T 0 none 0 true false])) [] (kAp 5)=Z24 n a ty (V7 t)) :
  (∃ x,Zd x (.ofNat 0)=false∧Zab Tryz.prog gl 5 5 (.ofNat t) ty a s p L x none)∨∃ k sz b,(k,sz)∈V7 t∧ty=.ofNat k∧a=.ofNat b∧b+sz≤L.length:=by
 have go:∀ x:Nat,Zd (.ofNat x) (.ofNat 0)=false→Z24 L.length a ty (V7 t)=some (.ofNat x,none)→∃ x,Zd x (.ofNat 0)=false∧Zab Tryz.prog gl 5 5 (.ofNat t) ty a s p L x none:=fun x hx h=>⟨.ofNat x,hx,EPl,100000,smC EPl,[],Yke,by kernel_rfl,W8 _,fun c n0=>(key c n0 L.length (bT L)).trans h⟩
 cases hf:(V7 t).find? (fun x=>Zd (.ofNat x.1) ty) with
 |none=>exact .inl (go 16 rfl (Zta hf))
 |some y=>
  have hm:=List.mem_of_find?_eq_some hf
  have hy:=List.find?_some hf
  simp only[Ya,decide_eq_true_eq] at hy
  rcases Z38 (a:=a) hL with h|⟨b,h1,h2⟩
  ·exact .inl (go 5 rfl ((Z63 hf).trans h))
  ·exact .inr ⟨y.1,y.2,b,hm,hy.symm,h1,h2⟩
theorem Yac(t ty a s p:Int){L:List UInt8}(hL:L.length<1000000):(∃ x,Zd x (.ofNat 0)=false∧Zab Tryz.prog gl 5 5 t ty a s p L x none)∨∃(t' k sz b:Nat),(t'=1∨t'=2∨t'=3)∧(k,sz)∈V7 t'∧t=.ofNat t'∧ty=.ofNat k∧a=.ofNat b∧b+sz≤L.length:=by
 by_cases h1:t=.ofNat 1
 ·subst h1
  rcases Z2v (t:=1) (ty:=ty) (a:=a) (s:=s) (p:=p) hL (fun c n0 n T=>Y91 ty a s p c n0 n T) with h|⟨k,sz,b,h⟩
  ·exact .inl h
  ·exact .inr ⟨1,k,sz,b,.inl rfl,h.1,rfl,h.2⟩
 by_cases h2:t=.ofNat 2
 ·subst h2
  rcases Z2v (t:=2) (ty:=ty) (a:=a) (s:=s) (p:=p) hL (fun c n0 n T=>apPl2 ty a s p c n0 n T) with h|⟨k,sz,b,h⟩
  ·exact .inl h
  ·exact .inr ⟨2,k,sz,b,.inr (.inl rfl),h.1,rfl,h.2⟩
 by_cases h3:t=.ofNat 3
 ·subst h3
  rcases Z2v (t:=3) (ty:=ty) (a:=a) (s:=s) (p:=p) hL (fun c n0 n T=>Y7w ty a s p c n0 n T) with h|⟨k,sz,b,h⟩
  ·exact .inl h
  ·exact .inr ⟨3,k,sz,b,.inr (.inr rfl),h.1,rfl,h.2⟩
 have g:∀{x y:Int},x≠y→Zd x y=false:=fun h=>by rw[Ya];exact decide_eq_false h
 exact .inl ⟨.ofNat 11,rfl,EPl,100000,smC EPl,[false,false,false],Yke,by kernel_rfl,W8 _,fun c n0=>(Y8x t ty a s p c n0 L.length (bT L)).trans (Zg (g h1) (Zg (g h2) (Zg (g h3) rfl)))⟩
def Ygm(E:Env)(sk:Smk AV)(t ty:Int)(c n:Nat)(T:Tr AV)(a s p:Int)(o:Ql):Option AV:=W2 E sk Qe 100000 (.call 3 [.int .i64 t,.int .i64 ty,.sl 12 0 n (some c),.int .i64 a,.int .u64 s,.int .u64 p] (Xm 12 [.cells n T 0 none 0 true false])) o jK
theorem Z6p(t ty a s p x:Int)(G:List UInt8→Bool)(c n:Nat)(T:Tr AV):Ygm (EEr t ty a s p x G) (SEr t ty a s p x G) t ty c n T a s p [false,false,true]=bc (Nat.blt 400 n) none (bc (Vf t ty a s p t ty a s p) (bc (V5 G T n) (bc (!(Zd x (.ofNat 0))) (some (.bool true)) none) none) none):=by kernel_rfl
theorem Y1l{t ty a s p x:Int}{G:List UInt8→Bool}{L:List UInt8}(h400:L.length≤400)(hx:Zd x (.ofNat 0)=false)(hG:G L=true)(c:Nat):Ygm (EEr t ty a s p x G) (SEr t ty a s p x G) t ty c L.length (bT L) a s p [false,false,true]=some (.bool true):=
 (Z6p ..).trans (Zg (K6 h400) (Zb (Yk ..) (Zb (Y4 (Zj (by omega)) (by omega) hG) (Zb (Y7 hx) rfl))))
theorem Y47{t ty a s p x:Int}{L:List UInt8}(h:Zab Tryz.prog gl 5 5 t ty a s p L x none)(w:World)(hw:Z4 gl w):EnvOk (EEr t ty a s p x fun X=>decide (X=L)) Tryz.prog (Kept gl w):=Xv (by kernel_rfl) ((Yty (e:=5) fun X hX=>by rw[of_decide_eq_true hX];exact h).or ((Zi0 Zgx).or (Xx V4))) Xw (fun _ _ _ h=>h.1) (Zz hw).ext
end
end Go.Proofs.YtaakhjmfojoodaaGreatDoor
namespace Go.Proofs.YtaakhjmfojoodaaGreatDoor
open Go Go.Vai
noncomputable section
set_option maxRecDepth 100000
def dF(t k:Nat)(nm:List UInt8)(V sz ck:Nat)(ins:List UInt8):Done:=⟨14,[.int .i64 (.ofNat t),.int .i64 (.ofNat k)],[],.tup [Xj (.ofNat k) nm V sz ck ins,.bool true],[]⟩
def dB(t k:Nat)(Q:RfI):Done:=⟨7,[.int .i64 (.ofNat t),.int .i64 (.ofNat k)],[],.tup [.agg [.int .i64 (.ofNat k),.str Q.rn,.int .u8 Q.rv,.int .i64 Q.rb,.int .u8 Q.rc,.nils],.bool true],[]⟩
def dI(t k kp:Nat)(Q:RfI)(l:List (List UInt8)):Done:=⟨7,[.int .i64 (.ofNat t),.int .i64 (.ofNat k)],[kp],.tup [.agg [.int .i64 (.ofNat k),.str Q.rn,.int .u8 Q.rv,.int .i64 Q.rb,.int .u8 Q.rc,.sl kp 0 Q.m (some Q.m)],.bool true],[⟨Q.m,9,none,0,false,false,l.map fun x=>some (.str x)⟩]⟩
def qB(nm:List UInt8)(V ck rv rb rc:Nat):RfI:=⟨nm,V,ck,nm,.ofNat rv,.ofNat rb,.ofNat rc,0,Tr.nil⟩
def qI(nm:List UInt8)(V ck rv rb rc kp:Nat)(l:List (List UInt8)):RfI:=⟨nm,V,ck,nm,.ofNat rv,.ofNat rb,.ofNat rc,l.length,Zyg 0 [kp] (l.map fun x=>some (.str x)) 0⟩
abbrev CA(d:Done)(t k:Nat)(H:AHeap):Option (AV×AHeap):=Zk d d.f [.int .i64 (.ofNat t),.int .i64 (.ofNat k)] H
theorem fd{t k:Nat}{nm:List UInt8}{V sz ck:Nat}{ins:List UInt8}(h:lD (dF t k nm V sz ck ins)=rD (dF t k nm V sz ck ins))(hq:∀ H,CA (dF t k nm V sz ck ins) t k H=some (.tup [Xj (.ofNat k) nm V sz ck ins,.bool true],H)):Zr Tryz.prog gl (Zy t (.ofNat k) (Xj (.ofNat k) nm V sz ck ins)):=Yqp (Xi h (by kernel_rfl) (Zh rfl) List.nodup_nil rfl) hq
theorem fb{t k:Nat}{Q:RfI}(h:lD (dB t k Q)=rD (dB t k Q))(hq:∀ H,CA (dB t k Q) t k H=some (rfR (.ofNat k) Q false H)):Zr Tryz.prog gl (Xl t (.ofNat k) Q false):=Yfo (Xi h (by kernel_rfl) (Zh rfl) List.nodup_nil rfl) hq
theorem fi(kp:Nat)(l:List (List UInt8)){t k:Nat}{Q:RfI}(h:lD (dI t k kp Q l)=rD (dI t k kp Q l))(hq:∀ H,CA (dI t k kp Q l) t k H=some (rfR (.ofNat k) Q true H)):Zr Tryz.prog gl (Xl t (.ofNat k) Q true):=Yfo (Xi h (by kernel_rfl) (Zh rfl) (by simp[dI]) rfl) hq
def Ys9:RfI:=qB [54,52] 48 0 83 8 0
theorem Yy4:Zr Tryz.prog gl (Zy 1 (.ofNat 1) (Xj (.ofNat 1) Ys9.nm Ys9.V 8 Ys9.ck [])):=fd (by kernel_rfl) fun H=>by kernel_rfl
theorem Y95:Zr Tryz.prog gl (Xl 1 (.ofNat 1) Ys9 false):=fb (by kernel_rfl) fun H=>by kernel_rfl
def Ywp:RfI:=qB [80,67,51,50] 49 1 114 4 115
theorem Yyr:Zr Tryz.prog gl (Zy 1 (.ofNat 2) (Xj (.ofNat 2) Ywp.nm Ywp.V 4 Ywp.ck [])):=fd (by kernel_rfl) fun H=>by kernel_rfl
theorem Y8w:Zr Tryz.prog gl (Xl 1 (.ofNat 2) Ywp false):=fb (by kernel_rfl) fun H=>by kernel_rfl
def Ywv:RfI:=qB [80,76,84,51,50] 49 1 114 4 115
theorem Yy0:Zr Tryz.prog gl (Zy 1 (.ofNat 4) (Xj (.ofNat 4) Ywv.nm Ywv.V 4 Ywv.ck [])):=fd (by kernel_rfl) fun H=>by kernel_rfl
theorem rf1_4:Zr Tryz.prog gl (Xl 1 (.ofNat 4) Ywv false):=fb (by kernel_rfl) fun H=>by kernel_rfl
def Z7y:RfI:=qB [51,50] 48 2 83 4 117
theorem Yky:Zr Tryz.prog gl (Zy 1 (.ofNat 10) (Xj (.ofNat 10) Z7y.nm Z7y.V 4 Z7y.ck [])):=fd (by kernel_rfl) fun H=>by kernel_rfl
theorem Y3s:Zr Tryz.prog gl (Xl 1 (.ofNat 10) Z7y false):=fb (by kernel_rfl) fun H=>by kernel_rfl
def Z6z:RfI:=qB [51,50,83] 48 1 83 4 115
theorem Yo2:Zr Tryz.prog gl (Zy 1 (.ofNat 11) (Xj (.ofNat 11) Z6z.nm Z6z.V 4 Z6z.ck [])):=fd (by kernel_rfl) fun H=>by kernel_rfl
theorem Y3g:Zr Tryz.prog gl (Xl 1 (.ofNat 11) Z6z false):=fb (by kernel_rfl) fun H=>by kernel_rfl
def Z61:RfI:=qB [84,80,79,70,70,51,50] 48 1 83 4 115
theorem Ymg:Zr Tryz.prog gl (Zy 1 (.ofNat 23) (Xj (.ofNat 23) Z61.nm Z61.V 4 Z61.ck [])):=fd (by kernel_rfl) fun H=>by kernel_rfl
theorem Y3b:Zr Tryz.prog gl (Xl 1 (.ofNat 23) Z61 false):=fb (by kernel_rfl) fun H=>by kernel_rfl
def Z7q:RfI:=qB [80,67,56] 49 1 114 1 115
theorem Ysb:Zr Tryz.prog gl (Zy 1 (.ofNat 15) (Xj (.ofNat 15) Z7q.nm Z7q.V 1 Z7q.ck [])):=fd (by kernel_rfl) fun H=>by kernel_rfl
theorem Y4r:Zr Tryz.prog gl (Xl 1 (.ofNat 15) Z7q false):=fb (by kernel_rfl) fun H=>by kernel_rfl
def Zxm:RfI:=qB [65,66,83,54,52] 48 0 83 8 0
theorem Ydj:Zr Tryz.prog gl (Zy 2 (.ofNat 257) (Xj (.ofNat 257) Zxm.nm Zxm.V 8 Zxm.ck [])):=fd (by kernel_rfl) fun H=>by kernel_rfl
theorem Yvw:Zr Tryz.prog gl (Xl 2 (.ofNat 257) Zxm false):=fb (by kernel_rfl) fun H=>by kernel_rfl
def Zvb:RfI:=qB [65,66,83,51,50] 48 3 83 4 101
theorem Ydu:Zr Tryz.prog gl (Zy 2 (.ofNat 258) (Xj (.ofNat 258) Zvb.nm Zvb.V 4 Zvb.ck [])):=fd (by kernel_rfl) fun H=>by kernel_rfl
theorem Yvp:Zr Tryz.prog gl (Xl 2 (.ofNat 258) Zvb false):=fb (by kernel_rfl) fun H=>by kernel_rfl
def Zur:RfI:=qB [80,82,69,76,51,50] 49 1 114 4 115
theorem Yat:Zr Tryz.prog gl (Zy 2 (.ofNat 261) (Xj (.ofNat 261) Zur.nm Zur.V 4 Zur.ck [])):=fd (by kernel_rfl) fun H=>by kernel_rfl
theorem Yun:Zr Tryz.prog gl (Xl 2 (.ofNat 261) Zur false):=fb (by kernel_rfl) fun H=>by kernel_rfl
def ns0:List (List UInt8):=[[97,100,114]]
def Zxt:RfI:=qI [65,68,82,95,80,82,69,76,95,76,79,50,49] 49 0 114 0 0 13 ns0
theorem Ycb:Zr Tryz.prog gl (Zy 2 (.ofNat 274) (Xj (.ofNat 274) Zxt.nm Zxt.V 4 Zxt.ck [32,97,100,114,32])):=fd (by kernel_rfl) fun H=>by kernel_rfl
theorem Yu5:Zr Tryz.prog gl (Xl 2 (.ofNat 274) Zxt true):=fi 13 ns0 (by kernel_rfl) fun H=>by kernel_rfl
def ns1:List (List UInt8):=[[97,100,114,112]]
def Zx0:RfI:=qI [65,68,82,95,80,82,69,76,95,80,71,95,72,73,50,49] 50 0 103 0 0 15 ns1
theorem Ycq:Zr Tryz.prog gl (Zy 2 (.ofNat 275) (Xj (.ofNat 275) Zx0.nm Zx0.V 4 Zx0.ck [32,97,100,114,112,32])):=fd (by kernel_rfl) fun H=>by kernel_rfl
theorem Ys4:Zr Tryz.prog gl (Xl 2 (.ofNat 275) Zx0 true):=fi 15 ns1 (by kernel_rfl) fun H=>by kernel_rfl
def ns2:List (List UInt8):=[[97,100,100,46,105]]
def Zvl:RfI:=qI [65,68,68,95,65,66,83,95,76,79,49,50,95,78,67] 51 0 119 0 0 17 ns2
theorem Ya1:Zr Tryz.prog gl (Zy 2 (.ofNat 277) (Xj (.ofNat 277) Zvl.nm Zvl.V 4 Zvl.ck [32,97,100,100,46,105,32])):=fd (by kernel_rfl) fun H=>by kernel_rfl
theorem Yxq:Zr Tryz.prog gl (Xl 2 (.ofNat 277) Zvl true):=fi 17 ns2 (by kernel_rfl) fun H=>by kernel_rfl
def Zv2:RfI:=qI [84,76,83,76,69,95,65,68,68,95,84,80,82,69,76,95,76,79,49,50,95,78,67] 51 0 119 0 0 19 ns2
theorem Yaz:Zr Tryz.prog gl (Zy 2 (.ofNat 551) (Xj (.ofNat 551) Zv2.nm Zv2.V 4 Zv2.ck [32,97,100,100,46,105,32])):=fd (by kernel_rfl) fun H=>by kernel_rfl
theorem Yvm:Zr Tryz.prog gl (Xl 2 (.ofNat 551) Zv2 true):=fi 19 ns2 (by kernel_rfl) fun H=>by kernel_rfl
def Zxh:RfI:=qI [84,76,83,76,69,95,65,68,68,95,84,80,82,69,76,95,72,73,49,50] 52 0 116 0 0 21 ns2
theorem Yd7:Zr Tryz.prog gl (Zy 2 (.ofNat 549) (Xj (.ofNat 549) Zxh.nm Zxh.V 4 Zxh.ck [32,97,100,100,46,105,32])):=fd (by kernel_rfl) fun H=>by kernel_rfl
theorem Yxo:Zr Tryz.prog gl (Xl 2 (.ofNat 549) Zxh true):=fi 21 ns2 (by kernel_rfl) fun H=>by kernel_rfl
def ns3:List (List UInt8):=[[108,100,114,98],[115,116,114,98]]
def Zvm:RfI:=qI [76,68,83,84,56,95,65,66,83,95,76,79,49,50,95,78,67] 51 0 119 0 0 23 ns3
theorem Yak:Zr Tryz.prog gl (Zy 2 (.ofNat 278) (Xj (.ofNat 278) Zvm.nm Zvm.V 4 Zvm.ck [32,108,100,114,98,32,115,116,114,98,32])):=fd (by kernel_rfl) fun H=>by kernel_rfl
theorem Yyj:Zr Tryz.prog gl (Xl 2 (.ofNat 278) Zvm true):=fi 23 ns3 (by kernel_rfl) fun H=>by kernel_rfl
def ns4:List (List UInt8):=[[108,100,114,104],[115,116,114,104]]
def Zx3:RfI:=qI [76,68,83,84,49,54,95,65,66,83,95,76,79,49,50,95,78,67] 51 0 119 0 0 25 ns4
theorem Ybp:Zr Tryz.prog gl (Zy 2 (.ofNat 284) (Xj (.ofNat 284) Zx3.nm Zx3.V 4 Zx3.ck [32,108,100,114,104,32,115,116,114,104,32])):=fd (by kernel_rfl) fun H=>by kernel_rfl
theorem Yv1:Zr Tryz.prog gl (Xl 2 (.ofNat 284) Zx3 true):=fi 25 ns4 (by kernel_rfl) fun H=>by kernel_rfl
def ns5:List (List UInt8):=[[108,100,114,46,119],[115,116,114,46,119],[108,100,114,115,119]]
def Zu9:RfI:=qI [76,68,83,84,51,50,95,65,66,83,95,76,79,49,50,95,78,67] 51 0 119 0 0 27 ns5
theorem Ybk:Zr Tryz.prog gl (Zy 2 (.ofNat 285) (Xj (.ofNat 285) Zu9.nm Zu9.V 4 Zu9.ck [32,108,100,114,46,119,32,115,116,114,46,119,32,108,100,114,115,119,32])):=fd (by kernel_rfl) fun H=>by kernel_rfl
theorem Yvo:Zr Tryz.prog gl (Xl 2 (.ofNat 285) Zu9 true):=fi 27 ns5 (by kernel_rfl) fun H=>by kernel_rfl
def ns6:List (List UInt8):=[[108,100,114],[115,116,114]]
def Zv9:RfI:=qI [76,68,83,84,54,52,95,65,66,83,95,76,79,49,50,95,78,67] 51 0 119 0 0 29 ns6
theorem Z93:Zr Tryz.prog gl (Zy 2 (.ofNat 286) (Xj (.ofNat 286) Zv9.nm Zv9.V 4 Zv9.ck [32,108,100,114,32,115,116,114,32])):=fd (by kernel_rfl) fun H=>by kernel_rfl
theorem Yw5:Zr Tryz.prog gl (Xl 2 (.ofNat 286) Zv9 true):=fi 29 ns6 (by kernel_rfl) fun H=>by kernel_rfl
def ns7:List (List UInt8):=[[98,46,99],[99,98,122],[99,98,110,122]]
def Zut:RfI:=qI [67,79,78,68,66,82,49,57] 49 0 114 0 0 31 ns7
theorem Yds:Zr Tryz.prog gl (Zy 2 (.ofNat 280) (Xj (.ofNat 280) Zut.nm Zut.V 4 Zut.ck [32,98,46,99,32,99,98,122,32,99,98,110,122,32])):=fd (by kernel_rfl) fun H=>by kernel_rfl
theorem Yyz:Zr Tryz.prog gl (Xl 2 (.ofNat 280) Zut true):=fi 31 ns7 (by kernel_rfl) fun H=>by kernel_rfl
def ns8:List (List UInt8):=[[98]]
def Zxu:RfI:=qI [74,85,77,80,50,54] 49 0 114 0 0 33 ns8
theorem Ycs:Zr Tryz.prog gl (Zy 2 (.ofNat 282) (Xj (.ofNat 282) Zxu.nm Zxu.V 4 Zxu.ck [32,98,32])):=fd (by kernel_rfl) fun H=>by kernel_rfl
theorem Ys2:Zr Tryz.prog gl (Xl 2 (.ofNat 282) Zxu true):=fi 33 ns8 (by kernel_rfl) fun H=>by kernel_rfl
def ns9:List (List UInt8):=[[98,108]]
def Zx9:RfI:=qI [67,65,76,76,50,54] 49 0 114 0 0 35 ns9
theorem Yc6:Zr Tryz.prog gl (Zy 2 (.ofNat 283) (Xj (.ofNat 283) Zx9.nm Zx9.V 4 Zx9.ck [32,98,108,32])):=fd (by kernel_rfl) fun H=>by kernel_rfl
theorem Yyk:Zr Tryz.prog gl (Xl 2 (.ofNat 283) Zx9 true):=fi 35 ns9 (by kernel_rfl) fun H=>by kernel_rfl
def Ys7:RfI:=qB [51,50] 48 3 83 4 101
theorem Yv0:Zr Tryz.prog gl (Zy 3 (.ofNat 1) (Xj (.ofNat 1) Ys7.nm Ys7.V 4 Ys7.ck [])):=fd (by kernel_rfl) fun H=>by kernel_rfl
theorem rf3_1:Zr Tryz.prog gl (Xl 3 (.ofNat 1) Ys7 false):=fb (by kernel_rfl) fun H=>by kernel_rfl
def Ywr:RfI:=qB [54,52] 48 0 83 8 0
theorem Yyq:Zr Tryz.prog gl (Zy 3 (.ofNat 2) (Xj (.ofNat 2) Ywr.nm Ywr.V 8 Ywr.ck [])):=fd (by kernel_rfl) fun H=>by kernel_rfl
theorem Y9y:Zr Tryz.prog gl (Xl 3 (.ofNat 2) Ywr false):=fb (by kernel_rfl) fun H=>by kernel_rfl
def Z7c:RfI:=qB [51,50,95,80,67,82,69,76] 49 1 114 4 115
theorem Ysf:Zr Tryz.prog gl (Zy 3 (.ofNat 57) (Xj (.ofNat 57) Z7c.nm Z7c.V 4 Z7c.ck [])):=fd (by kernel_rfl) fun H=>by kernel_rfl
theorem Y1k:Zr Tryz.prog gl (Xl 3 (.ofNat 57) Z7c false):=fb (by kernel_rfl) fun H=>by kernel_rfl
def Y8i:List (List UInt8):=[[98,101,113],[98,110,101],[98,108,116],[98,103,101],[98,108,116,117],[98,103,101,117]]
def Z9a:RfI:=qI [66,82,65,78,67,72] 49 0 114 0 0 13 Y8i
theorem Yp0:Zr Tryz.prog gl (Zy 3 (.ofNat 16) (Xj (.ofNat 16) Z9a.nm Z9a.V 4 Z9a.ck [32,98,101,113,32,98,110,101,32,98,108,116,32,98,103,101,32,98,108,116,117,32,98,103,101,117,32])):=fd (by kernel_rfl) fun H=>by kernel_rfl
theorem Y0v:Zr Tryz.prog gl (Xl 3 (.ofNat 16) Z9a true):=fi 13 Y8i (by kernel_rfl) fun H=>by kernel_rfl
def Y6g:List (List UInt8):=[[106,97,108]]
def Z62:RfI:=qI [74,65,76] 49 0 114 0 0 15 Y6g
theorem Yoq:Zr Tryz.prog gl (Zy 3 (.ofNat 17) (Xj (.ofNat 17) Z62.nm Z62.V 4 Z62.ck [32,106,97,108,32])):=fd (by kernel_rfl) fun H=>by kernel_rfl
theorem Y1a:Zr Tryz.prog gl (Xl 3 (.ofNat 17) Z62 true):=fi 15 Y6g (by kernel_rfl) fun H=>by kernel_rfl
def Y70:List (List UInt8):=[[99,46,98,101,113,122],[99,46,98,110,101,122]]
def Z9g:RfI:=qI [82,86,67,95,66,82,65,78,67,72] 49 0 114 0 0 17 Y70
theorem Ynz:Zr Tryz.prog gl (Zy 3 (.ofNat 44) (Xj (.ofNat 44) Z9g.nm Z9g.V 2 Z9g.ck [32,99,46,98,101,113,122,32,99,46,98,110,101,122,32])):=fd (by kernel_rfl) fun H=>by kernel_rfl
theorem Y2m:Zr Tryz.prog gl (Xl 3 (.ofNat 44) Z9g true):=fi 17 Y70 (by kernel_rfl) fun H=>by kernel_rfl
def Y8e:List (List UInt8):=[[99,46,106]]
def Z8p:RfI:=qI [82,86,67,95,74,85,77,80] 49 0 114 0 0 19 Y8e
theorem Yfe:Zr Tryz.prog gl (Zy 3 (.ofNat 45) (Xj (.ofNat 45) Z8p.nm Z8p.V 2 Z8p.ck [32,99,46,106,32])):=fd (by kernel_rfl) fun H=>by kernel_rfl
theorem Y3h:Zr Tryz.prog gl (Xl 3 (.ofNat 45) Z8p true):=fi 19 Y8e (by kernel_rfl) fun H=>by kernel_rfl
def Yte:List (List UInt8):=[[108,117,105]]
def Z8k:RfI:=qI [72,73,50,48] 53 0 104 0 0 21 Yte
theorem Yks:Zr Tryz.prog gl (Zy 3 (.ofNat 26) (Xj (.ofNat 26) Z8k.nm Z8k.V 4 Z8k.ck [32,108,117,105,32])):=fd (by kernel_rfl) fun H=>by kernel_rfl
theorem Y3z:Zr Tryz.prog gl (Xl 3 (.ofNat 26) Z8k true):=fi 21 Yte (by kernel_rfl) fun H=>by kernel_rfl
def Z74:RfI:=qI [84,80,82,69,76,95,72,73,50,48] 53 0 104 0 0 23 Yte
theorem Yhv:Zr Tryz.prog gl (Zy 3 (.ofNat 29) (Xj (.ofNat 29) Z74.nm Z74.V 4 Z74.ck [32,108,117,105,32])):=fd (by kernel_rfl) fun H=>by kernel_rfl
theorem Y26:Zr Tryz.prog gl (Xl 3 (.ofNat 29) Z74 true):=fi 23 Yte (by kernel_rfl) fun H=>by kernel_rfl
def Y7z:List (List UInt8):=[[97,117,105,112,99]]
def Z8n:RfI:=qI [80,67,82,69,76,95,72,73,50,48] 54 0 72 0 0 25 Y7z
theorem Yrq:Zr Tryz.prog gl (Zy 3 (.ofNat 23) (Xj (.ofNat 23) Z8n.nm Z8n.V 4 Z8n.ck [32,97,117,105,112,99,32])):=fd (by kernel_rfl) fun H=>by kernel_rfl
theorem Y2u:Zr Tryz.prog gl (Xl 3 (.ofNat 23) Z8n true):=fi 25 Y7z (by kernel_rfl) fun H=>by kernel_rfl
def Ycu:List (List UInt8):=[[97,100,100,105],[115,108,116,105],[115,108,116,105,117],[120,111,114,105],[111,114,105],[97,110,100,105],[97,100,100,105,119],[108,98],[108,104],[108,119],[108,100],[108,98,117],[108,104,117],[108,119,117],[106,97,108,114]]
def Z9s:RfI:=qI [76,79,49,50,95,73] 55 0 108 0 0 27 Ycu
theorem Yph:Zr Tryz.prog gl (Zy 3 (.ofNat 27) (Xj (.ofNat 27) Z9s.nm Z9s.V 4 Z9s.ck [32,97,100,100,105,32,115,108,116,105,32,115,108,116,105,117,32,120,111,114,105,32,111,114,105,32,97,110,100,105,32,97,100,100,105,119,32,108,98,32,108,104,32,108,119,32,108,100,32,108,98,117,32,108,104,117,32,108,119,117,32,106,97,108,114,32])):=fd (by kernel_rfl) fun H=>by kernel_rfl
theorem Y1r:Zr Tryz.prog gl (Xl 3 (.ofNat 27) Z9s true):=fi 27 Ycu (by kernel_rfl) fun H=>by kernel_rfl
def Ydc:List (List UInt8):=[[115,98],[115,104],[115,119],[115,100]]
def Z9p:RfI:=qI [76,79,49,50,95,83] 55 0 108 0 0 29 Ydc
theorem Yhj:Zr Tryz.prog gl (Zy 3 (.ofNat 28) (Xj (.ofNat 28) Z9p.nm Z9p.V 4 Z9p.ck [32,115,98,32,115,104,32,115,119,32,115,100,32])):=fd (by kernel_rfl) fun H=>by kernel_rfl
theorem Y3u:Zr Tryz.prog gl (Xl 3 (.ofNat 28) Z9p true):=fi 29 Ydc (by kernel_rfl) fun H=>by kernel_rfl
def Z73:RfI:=qI [84,80,82,69,76,95,76,79,49,50,95,73] 55 0 108 0 0 31 Ycu
theorem Yko:Zr Tryz.prog gl (Zy 3 (.ofNat 30) (Xj (.ofNat 30) Z73.nm Z73.V 4 Z73.ck [32,97,100,100,105,32,115,108,116,105,32,115,108,116,105,117,32,120,111,114,105,32,111,114,105,32,97,110,100,105,32,97,100,100,105,119,32,108,98,32,108,104,32,108,119,32,108,100,32,108,98,117,32,108,104,117,32,108,119,117,32,106,97,108,114,32])):=fd (by kernel_rfl) fun H=>by kernel_rfl
theorem Y2f:Zr Tryz.prog gl (Xl 3 (.ofNat 30) Z73 true):=fi 31 Ycu (by kernel_rfl) fun H=>by kernel_rfl
def Z7t:RfI:=qI [84,80,82,69,76,95,76,79,49,50,95,83] 55 0 108 0 0 33 Ydc
theorem Ynf:Zr Tryz.prog gl (Zy 3 (.ofNat 31) (Xj (.ofNat 31) Z7t.nm Z7t.V 4 Z7t.ck [32,115,98,32,115,104,32,115,119,32,115,100,32])):=fd (by kernel_rfl) fun H=>by kernel_rfl
theorem Y3n:Zr Tryz.prog gl (Xl 3 (.ofNat 31) Z7t true):=fi 33 Ydc (by kernel_rfl) fun H=>by kernel_rfl
def Z7m:RfI:=qI [80,67,82,69,76,95,76,79,49,50,95,73] 55 0 108 0 0 35 Ycu
theorem Yir:Zr Tryz.prog gl (Zy 3 (.ofNat 24) (Xj (.ofNat 24) Z7m.nm Z7m.V 4 Z7m.ck [32,97,100,100,105,32,115,108,116,105,32,115,108,116,105,117,32,120,111,114,105,32,111,114,105,32,97,110,100,105,32,97,100,100,105,119,32,108,98,32,108,104,32,108,119,32,108,100,32,108,98,117,32,108,104,117,32,108,119,117,32,106,97,108,114,32])):=fd (by kernel_rfl) fun H=>by kernel_rfl
theorem Y07:Zr Tryz.prog gl (Xl 3 (.ofNat 24) Z7m true):=fi 35 Ycu (by kernel_rfl) fun H=>by kernel_rfl
def Z7a:RfI:=qI [80,67,82,69,76,95,76,79,49,50,95,83] 55 0 108 0 0 37 Ydc
theorem Ylr:Zr Tryz.prog gl (Zy 3 (.ofNat 25) (Xj (.ofNat 25) Z7a.nm Z7a.V 4 Z7a.ck [32,115,98,32,115,104,32,115,119,32,115,100,32])):=fd (by kernel_rfl) fun H=>by kernel_rfl
theorem Y1u:Zr Tryz.prog gl (Xl 3 (.ofNat 25) Z7a true):=fi 37 Ydc (by kernel_rfl) fun H=>by kernel_rfl
end
end Go.Proofs.YtaakhjmfojoodaaGreatDoor
