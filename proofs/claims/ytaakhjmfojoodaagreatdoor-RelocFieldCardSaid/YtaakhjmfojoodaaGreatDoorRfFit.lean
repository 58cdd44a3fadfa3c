/- (row).fits: what it answers. -/
import Derived.Test.YtaakhjmfojoodaaGreatDoorRvEnc
import Derived.Test.YtaakhjmfojoodaaGreatDoorArEnc
import Derived.Test.YtaakhjmfojoodaaGreatDoorCoDec
import Derived.Test.YtaakhjmfojoodaaGreatDoorVaiI
namespace Go.Proofs.YtaakhjmfojoodaaGreatDoor
open Go Go.Vai
noncomputable section
set_option maxRecDepth 100000
def Z3k:Option AV→Bool
 |some (.bool _)=>true
 |_=>false
theorem Zjl{x:Option AV}(h:Z3k x=true):x=some (.bool (Zeo (x.getD .nilp))):=by
 unfold Z3k at h
 split at h
 ·rfl
 ·cases h
def Zhg(_n:Int):Option AV:=some (.bool true)
theorem Z6w(ty n:Int)(nm ins:List UInt8)(V:Nat):Yr E1 1000 (.call 31 [.agg [.int .i64 ty,.str nm,.fn V [] [],.int .i64 (.ofNat 8),.int .i64 (.ofNat 0),.str ins],.int .i64 n] (Yc 12 gl)) [] jK=Zhg n:=by kernel_rfl
theorem Z4r(n:Int):Zhg n=some (.bool (Zeo ((Zhg n).getD .nilp))):=by
 have h:Z3k (Zhg n)=true:=by
  unfold Zhg
  repeat (first|rfl|apply Zx)
 exact Zjl h
def Zgp(n:Int):Option AV:=bc (!(Z2 n (Za .i64 (Zf (.negSucc 0) 31)))) (bc (!(Z2 n (.ofNat 0))) (some (.bool (Z2 n (Za .i64 (Zf (.ofNat 1) 31))))) (some (.bool (Z2 n (Za .i64 (Zf (.ofNat 1) 31)))))) (bc (!(Z2 n (.ofNat 0))) (some (.bool false)) (some (.bool false)))
theorem Z5i(ty n:Int)(nm ins:List UInt8)(V:Nat):Yr E1 1000 (.call 31 [.agg [.int .i64 ty,.str nm,.fn V [] [],.int .i64 (.ofNat 4),.int .i64 (.ofNat 1),.str ins],.int .i64 n] (Yc 12 gl)) [] jK=Zgp n:=by kernel_rfl
theorem Z6k(n:Int):Zgp n=some (.bool (Zeo ((Zgp n).getD .nilp))):=by
 have h:Z3k (Zgp n)=true:=by
  unfold Zgp
  repeat (first|rfl|apply Zx)
 exact Zjl h
def Zg8(n:Int):Option AV:=bc (!(Z2 n (Za .i64 (Zf (.negSucc 0) 31)))) (bc (!(Z2 n (.ofNat 0))) (some (.bool (Z2 n (Za .i64 (Zf (.ofNat 1) 32))))) (some (.bool false))) (bc (!(Z2 n (.ofNat 0))) (some (.bool (Z2 n (Za .i64 (Zf (.ofNat 1) 32))))) (some (.bool false)))
theorem Z6o(ty n:Int)(nm ins:List UInt8)(V:Nat):Yr E1 1000 (.call 31 [.agg [.int .i64 ty,.str nm,.fn V [] [],.int .i64 (.ofNat 4),.int .i64 (.ofNat 2),.str ins],.int .i64 n] (Yc 12 gl)) [] jK=Zg8 n:=by kernel_rfl
theorem Z1x(n:Int):Zg8 n=some (.bool (Zeo ((Zg8 n).getD .nilp))):=by
 have h:Z3k (Zg8 n)=true:=by
  unfold Zg8
  repeat (first|rfl|apply Zx)
 exact Zjl h
def Zgn(n:Int):Option AV:=bc (!(Z2 n (Za .i64 (Zf (.negSucc 0) 31)))) (bc (!(Z2 n (.ofNat 0))) (bc (Z2 n (Za .i64 (Zf (.ofNat 1) 31))) (some (.bool true)) (some (.bool (Z2 n (Za .i64 (Zf (.ofNat 1) 32)))))) (bc (Z2 n (Za .i64 (Zf (.ofNat 1) 31))) (some (.bool true)) (some (.bool false)))) (bc (!(Z2 n (.ofNat 0))) (some (.bool (Z2 n (Za .i64 (Zf (.ofNat 1) 32))))) (some (.bool false)))
theorem Z47(ty n:Int)(nm ins:List UInt8)(V:Nat):Yr E1 1000 (.call 31 [.agg [.int .i64 ty,.str nm,.fn V [] [],.int .i64 (.ofNat 4),.int .i64 (.ofNat 3),.str ins],.int .i64 n] (Yc 12 gl)) [] jK=Zgn n:=by kernel_rfl
theorem Z2d(n:Int):Zgn n=some (.bool (Zeo ((Zgn n).getD .nilp))):=by
 have h:Z3k (Zgn n)=true:=by
  unfold Zgn
  repeat (first|rfl|apply Zx)
 exact Zjl h
def Zhe(n:Int):Option AV:=bc (!(Z2 n (.negSucc 127))) (bc (!(Z2 n (.ofNat 0))) (some (.bool (Z2 n (.ofNat 128)))) (some (.bool (Z2 n (.ofNat 128))))) (bc (!(Z2 n (.ofNat 0))) (some (.bool false)) (some (.bool false)))
theorem Z6t(ty n:Int)(nm ins:List UInt8)(V:Nat):Yr E1 1000 (.call 31 [.agg [.int .i64 ty,.str nm,.fn V [] [],.int .i64 (.ofNat 1),.int .i64 (.ofNat 1),.str ins],.int .i64 n] (Yc 12 gl)) [] jK=Zhe n:=by kernel_rfl
theorem Z6n(n:Int):Zhe n=some (.bool (Zeo ((Zhe n).getD .nilp))):=by
 have h:Z3k (Zhe n)=true:=by
  unfold Zhe
  repeat (first|rfl|apply Zx)
 exact Zjl h
def Y7f(sz ck n:Int):Bool:=bif Zd sz (.ofNat 8)&&Zd ck (.ofNat 0) then Zeo ((Zhg n).getD .nilp) else bif Zd sz (.ofNat 4)&&Zd ck (.ofNat 1) then Zeo ((Zgp n).getD .nilp) else bif Zd sz (.ofNat 4)&&Zd ck (.ofNat 2) then Zeo ((Zg8 n).getD .nilp) else bif Zd sz (.ofNat 4)&&Zd ck (.ofNat 3) then Zeo ((Zgn n).getD .nilp) else bif Zd sz (.ofNat 1)&&Zd ck (.ofNat 1) then Zeo ((Zhe n).getD .nilp) else true
def Y9c(sz ck:Int):Bool:=(Zd sz (.ofNat 8)&&Zd ck (.ofNat 0))||((Zd sz (.ofNat 4)&&Zd ck (.ofNat 1))||((Zd sz (.ofNat 4)&&Zd ck (.ofNat 2))||((Zd sz (.ofNat 4)&&Zd ck (.ofNat 3))||((Zd sz (.ofNat 1)&&Zd ck (.ofNat 1))))))
def Zi2(fit:Int→Int→Int→Bool):Nat→List AV→Option AV:=fun f args=>match args with
 |[.agg [.int .i64 _,.str _,.fn _ [] [],.int .i64 sz,.int .i64 ck,.str _],.int .i64 n]=>bif Nat.beq f 31&&Y9c sz ck then some (.bool (fit sz ck n)) else none
 |_=>none
theorem Zcc(ty:Int)(nm ins:List UInt8)(V:Nat)(sz ck n:Int):∀ a∈[AV.agg [.int .i64 ty,.str nm,.fn V [] [],.int .i64 sz,.int .i64 ck,.str ins],.int .i64 n],Plain a:=by
 intro a ha
 simp only[List.mem_cons,List.not_mem_nil,or_false] at ha
 rcases ha with rfl|rfl
 ·intro b keep;simp[rnV,Zds]
 ·exact Q2 _ _
theorem Yk5:Zr Tryz.prog gl (Yo (Zi2 Y7f)):=W4 fun f args v h=>by
 unfold Zi2 at h
 split at h
 case h_2=>cases h
 rename_i ty nm V sz ck ins n
 rw[Bool.cond_eq_ite] at h
 split at h
 case isFalse=>cases h
 rename_i hc
 rw[Bool.and_eq_true,Nat.beq_eq] at hc
 obtain⟨rfl,hg⟩:=hc
 simp only[Option.some.injEq] at h
 subst h
 unfold Y9c at hg
 simp only[Bool.or_eq_true,Bool.and_eq_true,Ya,decide_eq_true_eq] at hg
 rcases hg with⟨rfl,rfl⟩|⟨rfl,rfl⟩|⟨rfl,rfl⟩|⟨rfl,rfl⟩|⟨rfl,rfl⟩
 ·exact⟨E1,1000,Ky,Ww,by kernel_rfl,Zcc ty nm ins V (.ofNat 8) (.ofNat 0) n,[],(Z6w ..).trans (Z4r n)⟩
 ·exact⟨E1,1000,Ky,Ww,by kernel_rfl,Zcc ty nm ins V (.ofNat 4) (.ofNat 1) n,[],(Z5i ..).trans (Z6k n)⟩
 ·exact⟨E1,1000,Ky,Ww,by kernel_rfl,Zcc ty nm ins V (.ofNat 4) (.ofNat 2) n,[],(Z6o ..).trans (Z1x n)⟩
 ·exact⟨E1,1000,Ky,Ww,by kernel_rfl,Zcc ty nm ins V (.ofNat 4) (.ofNat 3) n,[],(Z47 ..).trans (Z2d n)⟩
 ·exact⟨E1,1000,Ky,Ww,by kernel_rfl,Zcc ty nm ins V (.ofNat 1) (.ofNat 1) n,[],(Z6t ..).trans (Z6n n)⟩
end
end Go.Proofs.YtaakhjmfojoodaaGreatDoor
namespace Go.Proofs.YtaakhjmfojoodaaGreatDoor
open Go Go.Vai
noncomputable section
set_option maxRecDepth 100000
def pO:Nat→Nat→Ql:=fun n=>Nat.rec (motive:=fun _=>Nat→Ql) (fun _=>[]) (fun _ ih k=>Nat.beq (Nat.mod k 2) 1::ih (Nat.div k 2)) n
structure RfS where
 (rvDN arDN coDN:Int→List UInt8)
 (rvDA rvDB rvDC rvDD rvDI rvDS rvDE arDA arDB arDC arDD arDI arDS arDE coDA coDB coDC coDD coDI coDS coDE:Int→Int)
 (rvEE rvEW arEE arEW coEE coEW:List UInt8→Int→Int→Int→Int→Int→Int)
 fit:Int→Int→Int→Bool
def RfS.rvEx(S:RfS)(w x:Int):Int:=S.rvEE (S.rvDN w) (S.rvDA w) (S.rvDB w) (S.rvDC w) (S.rvDD w) x
def RfS.rvWx(S:RfS)(w x:Int):Int:=S.rvEW (S.rvDN w) (S.rvDA w) (S.rvDB w) (S.rvDC w) (S.rvDD w) x
def RfS.rvU(S:RfS)(w:Int):AV:=.tup [.agg [.str (S.rvDN w),.int .i64 (S.rvDA w),.int .i64 (S.rvDB w),.int .i64 (S.rvDC w),.int .i64 (S.rvDD w),.int .i64 (S.rvDI w)],.int .i64 (S.rvDS w),.int .i64 (S.rvDE w)]
def RfS.arEx(S:RfS)(w x:Int):Int:=S.arEE (S.arDN w) (S.arDA w) (S.arDB w) (S.arDC w) (S.arDD w) x
def RfS.arWx(S:RfS)(w x:Int):Int:=S.arEW (S.arDN w) (S.arDA w) (S.arDB w) (S.arDC w) (S.arDD w) x
def RfS.arU(S:RfS)(w:Int):AV:=.tup [.agg [.str (S.arDN w),.int .i64 (S.arDA w),.int .i64 (S.arDB w),.int .i64 (S.arDC w),.int .i64 (S.arDD w),.int .i64 (S.arDI w)],.int .i64 (S.arDS w),.int .i64 (S.arDE w)]
def RfS.coEx(S:RfS)(w x:Int):Int:=S.coEE (S.coDN w) (S.coDA w) (S.coDB w) (S.coDC w) (S.coDD w) x
def RfS.coWx(S:RfS)(w x:Int):Int:=S.coEW (S.coDN w) (S.coDA w) (S.coDB w) (S.coDC w) (S.coDD w) x
def RfS.coU(S:RfS)(w:Int):AV:=.tup [.agg [.str (S.coDN w),.int .i64 (S.coDA w),.int .i64 (S.coDB w),.int .i64 (S.coDC w),.int .i64 (S.coDD w),.int .i64 (S.coDI w)],.int .i64 (S.coDS w),.int .i64 (S.coDE w)]
abbrev Xj(ty:Int)(nm:List UInt8)(V sz ck:Nat)(ins:List UInt8):AV:=.agg [.int .i64 ty,.str nm,.fn V [] [],.int .i64 (.ofNat sz),.int .i64 (.ofNat ck),.str ins]
def Zy(t:Nat)(ty:Int)(v:AV):Sm:=fun f args H=>match args with
 |[.int .i64 t',.int .i64 ty']=>bif Nat.beq f 14&&(Zd t' (.ofNat t)&&Zd ty' ty) then some (.tup [v,.bool true],H) else none
 |_=>none
def Z0z{α:Type}(t:Nat)(ty:Int)(v:AV)(args:List AV)(H:AHeap)(k:AV→AHeap→Option α):Option α:=match args with
 |[.int .i64 t',.int .i64 ty']=>bc (Zd t' (.ofNat t)) (bc (Zd ty' ty) (k (.tup [v,.bool true]) H) none) none
 |_=>none
theorem Zie{α:Type}{t:Nat}{ty:Int}{v:AV}{args:List AV}{H:AHeap}{k:AV→AHeap→Option α}{r:α}(h:Z0z t ty v args H k=some r):∃ u H',Zy t ty v 14 args H=some (u,H')∧k u H'=some r:=by
 unfold Z0z at h
 split at h
 case h_2=>cases h
 obtain⟨h1,h⟩:=Zo h
 obtain⟨h2,h⟩:=Zo h
 exact⟨_,_,by simp only[Zy,Nat.beq_refl,h1,h2,Bool.and_self,cond_true],h⟩
def Zwj{α:Type}(args:List AV)(H:AHeap)(k:AV→AHeap→Option α):Option α:=match args with
 |[.str a,.str b]=>bc (Nat.blt (Zv a) 4294967281) (k (.bool (Yq a b)) H) none
 |_=>none
theorem Zmn{α:Type}{f:Nat}{args:List AV}{H:AHeap}{k:AV→AHeap→Option α}{r:α}(h:Zwj args H k=some r):∃ u H',Jm f f args H=some (u,H')∧k u H'=some r:=by
 unfold Zwj at h
 split at h
 case h_2=>cases h
 rename_i a b
 obtain⟨h1,h⟩:=Zo h
 have h2:Nat.blt a.length 4294967281=true:=h1
 exact⟨_,_,by simp only[Jm,Nat.beq_refl,h2,Bool.and_self,cond_true],h⟩
theorem Yrp{fit:Int→Int→Int→Bool}{g:Nat}(h:g≠31)(args:List AV)(H:AHeap):Yo (Zi2 fit) g args H=none:=by
 have e:Zi2 fit g args=none:=by
  unfold Zi2
  split
  ·rw[Zxk h];rfl
  ·rfl
 unfold Yo
 rw[e]
def smA(S:RfS)(t:Nat)(ty:Int)(v:AV):Sm:=(Z9 (Vy kinds) (Z9 (Jm 21) (Z9 (K0 15 5) (Z9 (Ze5 40 S.arU) (Z9 (Zl2 70 S.coU) (Z9 (Jn 39 5 b4 arG S.arEE S.arEW) (Z9 (Jn 69 5 b4 (fun _=>true) S.rvEE S.rvEW) (Z9 (Jn 68 5 b2 coG S.coEE S.coEW) (Z9 (Ze5 71 S.rvU) (Z9 (Yo (Zi2 S.fit)) (Zy t ty v)))))))))))
def EAp(S:RfS)(t:Nat)(ty:Int)(v:AV):Env:=Q0 Tryz.prog 12 [21,15,40,70,39,69,68,71,31,14] (smA S t ty v)
theorem Zbp(S:RfS)(t:Nat)(ty:Int)(v:AV):(EAp S t ty v).sm=(Z9 (Vy kinds) (Z9 (Jm 21) (Z9 (K0 15 5) (Z9 (Ze5 40 S.arU) (Z9 (Zl2 70 S.coU) (Z9 (Jn 39 5 b4 arG S.arEE S.arEW) (Z9 (Jn 69 5 b4 (fun _=>true) S.rvEE S.rvEW) (Z9 (Jn 68 5 b2 coG S.coEE S.coEW) (Z9 (Ze5 71 S.rvU) (Z9 (Yo (Zi2 S.fit)) (Zy t ty v))))))))))):=rfl
def SK(S:RfS)(t:Nat)(ty:Int)(v:AV)(er:Bool){α:Type}:Smk α:=fun f args H k=>bif Nat.beq f 21 then Zwj args H k else bif Nat.beq f 15 then Zvu 5 args H k else bif Nat.beq f 40 then Zpr S.arU args H k else bif Nat.beq f 70 then Z1b S.coU args H k else bif Nat.beq f 71 then Zpr S.rvU args H k else bif Nat.beq f 39 then(bif er then Zf6 arG S.arEE args H k else Zf2 5 b4 arG S.arEE S.arEW args H k) else bif Nat.beq f 69 then(bif er then Zf6 (fun _=>true) S.rvEE args H k else Zf2 5 b4 (fun _=>true) S.rvEE S.rvEW args H k) else bif Nat.beq f 68 then(bif er then Zf6 coG S.coEE args H k else Zf2 5 b2 coG S.coEE S.coEW args H k) else bif Nat.beq f 14 then Z0z t ty v args H k else(smC (EAp S t ty v) f args H k)
theorem Y6i{α:Type}(S:RfS)(t:Nat)(ty:Int)(v:AV)(er:Bool):Qp (α:=α) (EAp S t ty v) (SK S t ty v er):=by
 intro f args H k r h
 unfold SK at h
 simp only[Bool.cond_eq_ite,Nat.beq_eq] at h
 split at h
 ·rename_i e
  subst e
  obtain⟨u,H',h1,h2⟩:=Zmn (f:=21) h
  refine⟨u,H',?_,h2⟩
  rw[Zbp]
  exact((Zs (Vj (by kernel_rfl) args H)).trans (Wh h1))
 split at h
 ·rename_i e
  subst e
  obtain⟨u,H',h1,h2⟩:=Zmr (f:=15) h
  refine⟨u,H',?_,h2⟩
  rw[Zbp]
  exact((Zs (Vj (by kernel_rfl) args H)).trans ((Zs (Wu (by decide) args H)).trans (Wh h1)))
 split at h
 ·rename_i e
  subst e
  obtain⟨u,H',h1,h2⟩:=Zcl (f:=40) h
  refine⟨u,H',?_,h2⟩
  rw[Zbp]
  exact((Zs (Vj (by kernel_rfl) args H)).trans ((Zs (Wu (by decide) args H)).trans ((Zs (Wc (by decide) args H)).trans (Wh h1))))
 split at h
 ·rename_i e
  subst e
  obtain⟨u,H',h1,h2⟩:=Zij (f:=70) h
  refine⟨u,H',?_,h2⟩
  rw[Zbp]
  exact((Zs (Vj (by kernel_rfl) args H)).trans ((Zs (Wu (by decide) args H)).trans ((Zs (Wc (by decide) args H)).trans ((Zs (Ws (by decide) args H)).trans (Wh h1)))))
 split at h
 ·rename_i e
  subst e
  obtain⟨u,H',h1,h2⟩:=Zcl (f:=71) h
  refine⟨u,H',?_,h2⟩
  rw[Zbp]
  exact((Zs (Vj (by kernel_rfl) args H)).trans ((Zs (Wu (by decide) args H)).trans ((Zs (Wc (by decide) args H)).trans ((Zs (Ws (by decide) args H)).trans ((Zs (Qz (by decide) args H)).trans ((Zs (V6 (by decide) args H)).trans ((Zs (V6 (by decide) args H)).trans ((Zs (V6 (by decide) args H)).trans (Wh h1)))))))))
 split at h
 ·rename_i e
  subst e
  split at h
  ·obtain⟨u,H',h1,h2⟩:=Kl (f:=39) (e:=5) (bs:=b4) (EW:=S.arEW) h
   refine⟨u,H',?_,h2⟩
   rw[Zbp]
   exact((Zs (Vj (by kernel_rfl) args H)).trans ((Zs (Wu (by decide) args H)).trans ((Zs (Wc (by decide) args H)).trans ((Zs (Ws (by decide) args H)).trans ((Zs (Qz (by decide) args H)).trans (Wh h1))))))
  ·obtain⟨u,H',h1,h2⟩:=Km (f:=39) h
   refine⟨u,H',?_,h2⟩
   rw[Zbp]
   exact((Zs (Vj (by kernel_rfl) args H)).trans ((Zs (Wu (by decide) args H)).trans ((Zs (Wc (by decide) args H)).trans ((Zs (Ws (by decide) args H)).trans ((Zs (Qz (by decide) args H)).trans (Wh h1))))))
 split at h
 ·rename_i e
  subst e
  split at h
  ·obtain⟨u,H',h1,h2⟩:=Kl (f:=69) (e:=5) (bs:=b4) (EW:=S.rvEW) h
   refine⟨u,H',?_,h2⟩
   rw[Zbp]
   exact((Zs (Vj (by kernel_rfl) args H)).trans ((Zs (Wu (by decide) args H)).trans ((Zs (Wc (by decide) args H)).trans ((Zs (Ws (by decide) args H)).trans ((Zs (Qz (by decide) args H)).trans ((Zs (V6 (by decide) args H)).trans (Wh h1)))))))
  ·obtain⟨u,H',h1,h2⟩:=Km (f:=69) h
   refine⟨u,H',?_,h2⟩
   rw[Zbp]
   exact((Zs (Vj (by kernel_rfl) args H)).trans ((Zs (Wu (by decide) args H)).trans ((Zs (Wc (by decide) args H)).trans ((Zs (Ws (by decide) args H)).trans ((Zs (Qz (by decide) args H)).trans ((Zs (V6 (by decide) args H)).trans (Wh h1)))))))
 split at h
 ·rename_i e
  subst e
  split at h
  ·obtain⟨u,H',h1,h2⟩:=Kl (f:=68) (e:=5) (bs:=b2) (EW:=S.coEW) h
   refine⟨u,H',?_,h2⟩
   rw[Zbp]
   exact((Zs (Vj (by kernel_rfl) args H)).trans ((Zs (Wu (by decide) args H)).trans ((Zs (Wc (by decide) args H)).trans ((Zs (Ws (by decide) args H)).trans ((Zs (Qz (by decide) args H)).trans ((Zs (V6 (by decide) args H)).trans ((Zs (V6 (by decide) args H)).trans (Wh h1))))))))
  ·obtain⟨u,H',h1,h2⟩:=Km (f:=68) h
   refine⟨u,H',?_,h2⟩
   rw[Zbp]
   exact((Zs (Vj (by kernel_rfl) args H)).trans ((Zs (Wu (by decide) args H)).trans ((Zs (Wc (by decide) args H)).trans ((Zs (Ws (by decide) args H)).trans ((Zs (Qz (by decide) args H)).trans ((Zs (V6 (by decide) args H)).trans ((Zs (V6 (by decide) args H)).trans (Wh h1))))))))
 split at h
 ·rename_i e
  subst e
  obtain⟨u,H',h1,h2⟩:=Zie h
  refine⟨u,H',?_,h2⟩
  rw[Zbp]
  exact((Zs (Vj (by kernel_rfl) args H)).trans ((Zs (Wu (by decide) args H)).trans ((Zs (Wc (by decide) args H)).trans ((Zs (Ws (by decide) args H)).trans ((Zs (Qz (by decide) args H)).trans ((Zs (V6 (by decide) args H)).trans ((Zs (V6 (by decide) args H)).trans ((Zs (V6 (by decide) args H)).trans ((Zs (Ws (by decide) args H)).trans ((Zs (Yrp (by decide) args H)).trans h1))))))))))
 ·exact W8 _ _ _ _ _ _ h
def smA2(S:RfS)(t:Nat)(ty:Int)(v:AV):Sm:=(Z9 (Vy kinds) (Z9 (Jm 21) (Z9 (K0 15 5) (Z9 (Ze5 40 S.arU) (Z9 (Zl2 70 S.coU) (Z9 (Jn 39 5 b4 arG S.arEE S.arEW) (Z9 (Jn 69 5 b4 (fun _=>true) S.rvEE S.rvEW) (Z9 (Jn 68 5 b2 coG S.coEE S.coEW) (Z9 (Yo (Zi2 S.fit)) (Zy t ty v))))))))))
def Z5t(S:RfS)(t:Nat)(ty:Int)(v:AV):Env:=Q0 Tryz.prog 12 [21,15,40,70,39,69,68,31,14] (smA2 S t ty v)
theorem Kt(S:RfS)(t:Nat)(ty:Int)(v:AV):(Z5t S t ty v).sm=(Z9 (Vy kinds) (Z9 (Jm 21) (Z9 (K0 15 5) (Z9 (Ze5 40 S.arU) (Z9 (Zl2 70 S.coU) (Z9 (Jn 39 5 b4 arG S.arEE S.arEW) (Z9 (Jn 69 5 b4 (fun _=>true) S.rvEE S.rvEW) (Z9 (Jn 68 5 b2 coG S.coEE S.coEW) (Z9 (Yo (Zi2 S.fit)) (Zy t ty v)))))))))):=rfl
def SK2(S:RfS)(t:Nat)(ty:Int)(v:AV)(er:Bool){α:Type}:Smk α:=fun f args H k=>bif Nat.beq f 21 then Zwj args H k else bif Nat.beq f 15 then Zvu 5 args H k else bif Nat.beq f 40 then Zpr S.arU args H k else bif Nat.beq f 70 then Z1b S.coU args H k else bif Nat.beq f 39 then(bif er then Zf6 arG S.arEE args H k else Zf2 5 b4 arG S.arEE S.arEW args H k) else bif Nat.beq f 69 then(bif er then Zf6 (fun _=>true) S.rvEE args H k else Zf2 5 b4 (fun _=>true) S.rvEE S.rvEW args H k) else bif Nat.beq f 68 then(bif er then Zf6 coG S.coEE args H k else Zf2 5 b2 coG S.coEE S.coEW args H k) else bif Nat.beq f 14 then Z0z t ty v args H k else(smC (Z5t S t ty v) f args H k)
theorem Y29{α:Type}(S:RfS)(t:Nat)(ty:Int)(v:AV)(er:Bool):Qp (α:=α) (Z5t S t ty v) (SK2 S t ty v er):=by
 intro f args H k r h
 unfold SK2 at h
 simp only[Bool.cond_eq_ite,Nat.beq_eq] at h
 split at h
 ·rename_i e
  subst e
  obtain⟨u,H',h1,h2⟩:=Zmn (f:=21) h
  refine⟨u,H',?_,h2⟩
  rw[Kt]
  exact((Zs (Vj (by kernel_rfl) args H)).trans (Wh h1))
 split at h
 ·rename_i e
  subst e
  obtain⟨u,H',h1,h2⟩:=Zmr (f:=15) h
  refine⟨u,H',?_,h2⟩
  rw[Kt]
  exact((Zs (Vj (by kernel_rfl) args H)).trans ((Zs (Wu (by decide) args H)).trans (Wh h1)))
 split at h
 ·rename_i e
  subst e
  obtain⟨u,H',h1,h2⟩:=Zcl (f:=40) h
  refine⟨u,H',?_,h2⟩
  rw[Kt]
  exact((Zs (Vj (by kernel_rfl) args H)).trans ((Zs (Wu (by decide) args H)).trans ((Zs (Wc (by decide) args H)).trans (Wh h1))))
 split at h
 ·rename_i e
  subst e
  obtain⟨u,H',h1,h2⟩:=Zij (f:=70) h
  refine⟨u,H',?_,h2⟩
  rw[Kt]
  exact((Zs (Vj (by kernel_rfl) args H)).trans ((Zs (Wu (by decide) args H)).trans ((Zs (Wc (by decide) args H)).trans ((Zs (Ws (by decide) args H)).trans (Wh h1)))))
 split at h
 ·rename_i e
  subst e
  split at h
  ·obtain⟨u,H',h1,h2⟩:=Kl (f:=39) (e:=5) (bs:=b4) (EW:=S.arEW) h
   refine⟨u,H',?_,h2⟩
   rw[Kt]
   exact((Zs (Vj (by kernel_rfl) args H)).trans ((Zs (Wu (by decide) args H)).trans ((Zs (Wc (by decide) args H)).trans ((Zs (Ws (by decide) args H)).trans ((Zs (Qz (by decide) args H)).trans (Wh h1))))))
  ·obtain⟨u,H',h1,h2⟩:=Km (f:=39) h
   refine⟨u,H',?_,h2⟩
   rw[Kt]
   exact((Zs (Vj (by kernel_rfl) args H)).trans ((Zs (Wu (by decide) args H)).trans ((Zs (Wc (by decide) args H)).trans ((Zs (Ws (by decide) args H)).trans ((Zs (Qz (by decide) args H)).trans (Wh h1))))))
 split at h
 ·rename_i e
  subst e
  split at h
  ·obtain⟨u,H',h1,h2⟩:=Kl (f:=69) (e:=5) (bs:=b4) (EW:=S.rvEW) h
   refine⟨u,H',?_,h2⟩
   rw[Kt]
   exact((Zs (Vj (by kernel_rfl) args H)).trans ((Zs (Wu (by decide) args H)).trans ((Zs (Wc (by decide) args H)).trans ((Zs (Ws (by decide) args H)).trans ((Zs (Qz (by decide) args H)).trans ((Zs (V6 (by decide) args H)).trans (Wh h1)))))))
  ·obtain⟨u,H',h1,h2⟩:=Km (f:=69) h
   refine⟨u,H',?_,h2⟩
   rw[Kt]
   exact((Zs (Vj (by kernel_rfl) args H)).trans ((Zs (Wu (by decide) args H)).trans ((Zs (Wc (by decide) args H)).trans ((Zs (Ws (by decide) args H)).trans ((Zs (Qz (by decide) args H)).trans ((Zs (V6 (by decide) args H)).trans (Wh h1)))))))
 split at h
 ·rename_i e
  subst e
  split at h
  ·obtain⟨u,H',h1,h2⟩:=Kl (f:=68) (e:=5) (bs:=b2) (EW:=S.coEW) h
   refine⟨u,H',?_,h2⟩
   rw[Kt]
   exact((Zs (Vj (by kernel_rfl) args H)).trans ((Zs (Wu (by decide) args H)).trans ((Zs (Wc (by decide) args H)).trans ((Zs (Ws (by decide) args H)).trans ((Zs (Qz (by decide) args H)).trans ((Zs (V6 (by decide) args H)).trans ((Zs (V6 (by decide) args H)).trans (Wh h1))))))))
  ·obtain⟨u,H',h1,h2⟩:=Km (f:=68) h
   refine⟨u,H',?_,h2⟩
   rw[Kt]
   exact((Zs (Vj (by kernel_rfl) args H)).trans ((Zs (Wu (by decide) args H)).trans ((Zs (Wc (by decide) args H)).trans ((Zs (Ws (by decide) args H)).trans ((Zs (Qz (by decide) args H)).trans ((Zs (V6 (by decide) args H)).trans ((Zs (V6 (by decide) args H)).trans (Wh h1))))))))
 split at h
 ·rename_i e
  subst e
  obtain⟨u,H',h1,h2⟩:=Zie h
  refine⟨u,H',?_,h2⟩
  rw[Kt]
  exact((Zs (Vj (by kernel_rfl) args H)).trans ((Zs (Wu (by decide) args H)).trans ((Zs (Wc (by decide) args H)).trans ((Zs (Ws (by decide) args H)).trans ((Zs (Qz (by decide) args H)).trans ((Zs (V6 (by decide) args H)).trans ((Zs (V6 (by decide) args H)).trans ((Zs (V6 (by decide) args H)).trans ((Zs (Yrp (by decide) args H)).trans h1)))))))))
 ·exact W8 _ _ _ _ _ _ h
def Yyy(E:Env)(sk:Smk (Int×Option (List AV)))(t:Nat)(ty:Int)(c n0 n:Nat)(T:Tr AV)(a:Nat)(s p:Int)(o:Ql):Option (Int×Option (List AV)):=W2 E sk Qe 100000 (.call 5 [.int .i64 (.ofNat t),.int .i64 ty,.sl 12 0 n (some c),.int .i64 (.ofNat a),.int .u64 s,.int .u64 p] (Xm 12 [.cells n0 T 0 none 0 true false])) o (kAp 5)
theorem Y9k{x:List UInt8}(h:Zv x≤1000):Nat.add 1 (Zv x)≤1099511627776:=by show 1+Zv x≤_;omega
theorem Y7x{x:List UInt8}(h:Zv x≤1000):Nat.succ (Zv ([32]++x))≤1099511627776:=by rw[Y22];show 1+Zv x+1≤_;omega
end
end Go.Proofs.YtaakhjmfojoodaaGreatDoor
namespace Go.Proofs.YtaakhjmfojoodaaGreatDoor
open Go Go.Vai
noncomputable section
set_option maxRecDepth 100000
def Z7d:Code→Array Oper
 |.region _ ops _=>ops
 |_=>#[]
def fnT:AFunc:=(E1.fn 11).getD default
theorem Y37:E1.fn 11=some fnT:=by kernel_rfl
def ihT:Task→Option TRes:=run E1 10
def Vr:Array Oper:=Z7d ((flat fnT.body).getD 1 .skip)
def Jw:Array Oper:=Z7d ((flat fnT.body).getD 2 .skip)
def Zz1:List Code:=(flat fnT.body).drop 3
def Ygf:Code:=(flat fnT.body).getD 0 .skip
theorem Y4q:flat fnT.body=Ygf::.region 1 Vr true::.region 2 Jw false::Zz1:=by kernel_rfl
def ST:List Nat:=[0,1,6]
def vT(t s:Int):List AV:=[.int .i64 t,.int .i64 s,.mapv 12]
def Zgk(t s:Int):AV:=.agg [.int .i64 t,.int .i64 s]
theorem Y24(t s:Int):Z6 E1 (Yu E1 3) [Ygf] (Yy 12 [0,1] [0,1,2,3,4,5,6,7,8,9,10,11]) (Qa fnT [.int .i64 t,.int .i64 s]) (Xm 12 [])=lf .normal 27 ([.int .i64 t,.int .i64 s].map some) ([].map some):=by kernel_rfl
theorem litT:Ykf E1 Vr 82 81 9 27=true:=by kernel_rfl
def wmT:Tr Nat:=(Zna Vr.toList 0 .nil).getD .nil
theorem Y11:Zna Vr.toList 0 .nil=some wmT:=by kernel_rfl
def Kg:List (Int×Int×Int):=[(.ofNat 1,.ofNat 4,.ofNat 10),(.ofNat 1,.ofNat 8,.ofNat 1),(.ofNat 2,.ofNat 4,.ofNat 258),(.ofNat 2,.ofNat 8,.ofNat 257),(.ofNat 3,.ofNat 4,.ofNat 1),(.ofNat 3,.ofNat 8,.ofNat 2)]
def Zjg(j:Nat):Option (AV×AV):=Zcy E1 Vr 82 9 wmT j
def Zm7(x:Int×Int×Int):AV×AV:=(Zgk x.1 x.2.1,.int .i64 x.2.2)
theorem Zeg:(List.range 15).map Zjg=[none,none,some (Zm7 (Kg.getD 0 (0,0,0))),none,some (Zm7 (Kg.getD 1 (0,0,0))),none,some (Zm7 (Kg.getD 2 (0,0,0))),none,some (Zm7 (Kg.getD 3 (0,0,0))),none,some (Zm7 (Kg.getD 4 (0,0,0))),none,some (Zm7 (Kg.getD 5 (0,0,0))),none,none]:=by kernel_rfl
theorem sizeT:Vr.size=15:=by kernel_rfl
theorem Yyw{j:Nat}(h:(Zjg j).isSome=true):j<15:=by
 unfold Zjg Zcy at h
 split at h
 case h_2=>cases h
 rename_i o ho
 rw[←sizeT]
 exact(Array.getElem?_eq_some_iff.1 ho).1
theorem Z03{j:Nat}(h:j<15):Zjg j=((List.range 15).map Zjg)[j]'(by simpa using h):=by simp
theorem Ybw{j:Nat}(h:(Zjg j).isSome=true):∃ x∈Kg,Zjg j=some (Zm7 x):=by
 have hj:=Yyw h
 rw[Z03 hj] at h ⊢
 simp only[Zeg] at h ⊢
 match j,hj with
 |0,_=>cases h
 |1,_=>cases h
 |2,_=>exact⟨_,by decide,rfl⟩
 |3,_=>cases h
 |4,_=>exact⟨_,by decide,rfl⟩
 |5,_=>cases h
 |6,_=>exact⟨_,by decide,rfl⟩
 |7,_=>cases h
 |8,_=>exact⟨_,by decide,rfl⟩
 |9,_=>cases h
 |10,_=>exact⟨_,by decide,rfl⟩
 |11,_=>cases h
 |12,_=>exact⟨_,by decide,rfl⟩
 |13,_=>cases h
 |14,_=>cases h
theorem Yl8:∀ x∈Kg,∃ j,Zjg j=some (Zm7 x):=by
 intro x hx
 have g:∀ j,(h:j<15)→Zjg j=((List.range 15).map Zjg)[j]'(by simpa using h):=fun j h=>Z03 h
 simp only[Kg,List.mem_cons,List.not_mem_nil,or_false] at hx
 rcases hx with rfl|rfl|rfl|rfl|rfl|rfl
 ·exact⟨2,by rw[g 2 (by decide)];simp only[Zeg];rfl⟩
 ·exact⟨4,by rw[g 4 (by decide)];simp only[Zeg];rfl⟩
 ·exact⟨6,by rw[g 6 (by decide)];simp only[Zeg];rfl⟩
 ·exact⟨8,by rw[g 8 (by decide)];simp only[Zeg];rfl⟩
 ·exact⟨10,by rw[g 10 (by decide)];simp only[Zeg];rfl⟩
 ·exact⟨12,by rw[g 12 (by decide)];simp only[Zeg];rfl⟩
def Zk7(t s:Int):Option (Int×Int×Int):=Kg.find? fun x=>Zd t x.1&&Zd s x.2.1
def Zjt(t s:Int):Bool:=(Zk7 t s).isSome
def Zi7(t s:Int):Int:=match Zk7 t s with
 |some x=>x.2.2
 |none=>.ofNat 0
theorem Yha(t s a b:Int):eqK E1 81 (Zgk t s) (Zgk a b)=some (Zd t a&&Zd s b):=by
 have h:eqK E1 81 (Zgk t s) (Zgk a b)=(match some (Zd t a) with | some true=>(match some (Zd s b) with | some true=>some true | some false=>some false | none=>none) | some false=>some false | none=>none):=by kernel_rfl
 rw[h]
 cases Zd t a <;> cases Zd s b <;> rfl
def Y6o:Option (Option (Nat×AV))→Option AV
 |some (some (_,v))=>some (.tup [v,.bool true])
 |some none=>some (.tup [.int .i64 (.ofNat 0),.bool false])
 |none=>none
theorem Y4f (es : List (AV × AV × Nat)) (n : Nat) (t s : Int) : Zc9 E1 (Xm 12 [.mp es n false]) 82 (.mapv 12) (Zgk t s) true = Y6o (Vl E1 81 (Zgk t s) es 0) := by
  have h : Zc9 E1 (Xm 12 [.mp es n false]) 82 (.mapv 12) (Zgk t s) true = (match Vl E1 81 (Zgk t s) es 0, E1.ty 3 with
          | some (some (_, v)), _ => some (bif true then .tup [v, .bool true] else v)
          | some none, some ei => match zeroV ei with
            | some z => some (bif true then .tup [z, .bool false] else z)
            | none => none
          | _, _ => none) := by kernel_rfl
  rw [h]
  have e3 : E1.ty 3 = some ((E1.ty 3).getD default) := by kernel_rfl
  have z3 : zeroV ((E1.ty 3).getD default) = some (.int .i64 (.ofNat 0)) := by kernel_rfl
  rw [e3]
  cases hk : Vl E1 81 (Zgk t s) es 0 with
  | none => rfl
  | some o =>
    cases o with
    | none => simp only [z3]; rfl
    | some x => rfl
theorem Zfy{E:Env}{ih:Task→Option TRes}{all:Array Oper}{l2:List Oper}:∀(l1:List Oper)(fr:AFr)(H:AHeap)(fr1:AFr)(H1:AHeap),Za6 E ih all l1 fr H=some (.code .normal fr1 H1)→Za6 E ih all (l1++l2) fr H=Za6 E ih all l2 fr1 H1
 |[],fr,H,fr1,H1,h=>by
  simp only[Za6,Option.some.injEq,TRes.code.injEq,true_and] at h
  obtain⟨rfl,rfl⟩:=h
  rfl
 |o::l1,fr,H,fr1,H1,h=>by
  simp only[Za6,List.cons_append] at h ⊢
  cases hw:X3 all fr.t o with
  |none=>rw[hw] at h;cases h
  |some b=>
   rw[hw] at h
   cases b with
   |false=>exact Zfy l1 _ _ _ _ h
   |true=>
    simp only at h ⊢
    cases hx:Xf E H fr.t o with
    |none=>rw[hx] at h;cases h
    |some r=>
     rw[hx] at h
     simp only at h ⊢
     cases hc:Xk ih H r with
     |none=>rw[hc] at h;cases h
     |some c=>
      rw[hc] at h
      cases c with
      |val v H'=>exact Zfy l1 _ _ _ _ h
      |skip H'=>exact Zfy l1 _ _ _ _ h
      |panic v H'=>simp at h
      |call=>cases h
      |ycall=>cases h
      |defer f args=>
       simp only at h ⊢
       cases hr:fr.rd with
       |true=>rw[hr] at h;cases h
       |false=>
        rw[hr] at h
        exact Zfy l1 _ _ _ _ h
def Y28:Option TRes→AFr
 |some (.code _ fr _)=>fr
 |_=>default
def F0(t s:Int):AFr:=Yx 27 ST (vT t s)
def F1(t s:Int):AFr:=Y28 (Za6 E1 ihT Jw (Jw.toList.take 4) (F0 t s) (Xm 12 [.mp [] 0 false]))
theorem preT(t s:Int)(es:List (AV×AV×Nat))(n:Nat):Za6 E1 ihT Jw (Jw.toList.take 4) (F0 t s) (Xm 12 [.mp es n false])=some (.code .normal (F1 t s) (Xm 12 [.mp es n false])):=by kernel_rfl
def o4:Option Oper:=Jw[4]?
theorem Y09:∃ o,o4=some o∧Jw.toList=Jw.toList.take 4++o::Jw.toList.drop 5:=by
 have h:o4.isSome=true:=by kernel_rfl
 obtain⟨o,ho⟩:=Option.isSome_iff_exists.1 h
 refine⟨o,ho,?_⟩
 have h5:Jw.toList.drop 4=o::Jw.toList.drop 5:=by
  have e:Jw.toList[4]?=some o:=by rw[←ho];unfold o4;rw[Array.getElem?_toList]
  obtain⟨hl,he⟩:=List.getElem?_eq_some_iff.1 e
  rw[List.drop_eq_getElem_cons hl,he]
 rw[←h5,List.take_append_drop]
theorem Y8h(t s:Int)(es:List (AV×AV×Nat))(n:Nat):(o4.map fun o=>(X3 Jw (F1 t s).t o,o.dst,Xf E1 (Xm 12 [.mp es n false]) (F1 t s).t o))=some (some true,some 22,vh (Xm 12 [.mp es n false]) (Zc9 E1 (Xm 12 [.mp es n false]) 82 (.mapv 12) (Zgk t s) true)):=by kernel_rfl
def F2(t s x:Int)(b:Bool):AFr:=Y28 (Za6 E1 ihT Jw (Jw.toList.drop 5) ((F1 t s).put (some 22) (.tup [.int .i64 x,.bool b])) (Xm 12 []))
theorem Y76(t s x:Int)(b:Bool)(es:List (AV×AV×Nat))(n:Nat):Za6 E1 ihT Jw (Jw.toList.drop 5) ((F1 t s).put (some 22) (.tup [.int .i64 x,.bool b])) (Xm 12 [.mp es n false])=some (.code .normal (F2 t s x b) (Xm 12 [.mp es n false])):=by kernel_rfl
def F3(t s x:Int)(b:Bool):AFr:=Y28 (Zhy E1 ihT Zz1 (F2 t s x b) (Xm 12 []))
theorem Y7t(t s x:Int)(b:Bool)(es:List (AV×AV×Nat))(n:Nat):Zhy E1 ihT Zz1 (F2 t s x b) (Xm 12 [.mp es n false])=some (.code .ret (F3 t s x b) (Xm 12 [.mp es n false])):=by kernel_rfl
theorem Y6l(t s x:Int)(b:Bool):(F3 t s x b).df=[]:=by kernel_rfl
theorem nT3(t s x:Int)(b:Bool):(Yx 27 [4,5] [.int .i64 x,.bool b]).n=(F3 t s x b).n:=by kernel_rfl
theorem rdT3(t s x:Int)(b:Bool):(Yx 27 [4,5] [.int .i64 x,.bool b]).rd=(F3 t s x b).rd:=by kernel_rfl
theorem g4T3(t s x:Int)(b:Bool):(F3 t s x b).t.get 4=some (.int .i64 x):=by kernel_rfl
theorem g5T3(t s x:Int)(b:Bool):(F3 t s x b).t.get 5=some (.bool b):=by kernel_rfl
theorem Y3l(x:Int)(b:Bool):K7 E1 (Yx 27 [4,5] [.int .i64 x,.bool b]).t (Xm 12 []) fnT.results=some [.int .i64 x,.bool b]:=by kernel_rfl
theorem Y9r(t s x:Int)(b:Bool)(es:List (AV×AV×Nat))(n:Nat)(h:Zc9 E1 (Xm 12 [.mp es n false]) 82 (.mapv 12) (Zgk t s) true=some (.tup [.int .i64 x,.bool b])):Y3 E1 ihT (.region 2 Jw false) (F0 t s) (Xm 12 [.mp es n false])=some (.code .normal (F2 t s x b) (Xm 12 [.mp es n false])):=by
 obtain⟨o,ho,hs⟩:=Y09
 have hx:=Y8h t s es n
 rw[ho] at hx
 simp only[Option.map_some,Option.some.injEq,Prod.mk.injEq] at hx
 obtain⟨h1,h2,h3⟩:=hx
 show Za6 E1 ihT Jw Jw.toList (F0 t s) (Xm 12 [.mp es n false])=_
 rw[hs,Zfy _ _ _ _ _ (preT t s es n)]
 simp only[Za6,h1,h3,h,vh,Xk,h2]
 exact Y76 t s x b es n
theorem esT{p:List Nat}(hp:∀ j,j∈p↔(Zjg j).isSome=true){e:AV×AV×Nat}(he:e∈esM E1 Vr 82 9 wmT p):∃ x∈Kg,e.1=Zgk x.1 x.2.1∧e.2.1=.int .i64 x.2.2:=by
 unfold esM at he
 obtain⟨y,hy,rfl⟩:=List.mem_map.1 he
 have hm:y.1∈p:=(List.mem_zipIdx' hy).2 ▸ List.getElem_mem _
 obtain⟨x,hx,e⟩:=Ybw ((hp _).1 hm)
 refine⟨x,hx,?_,?_⟩
 ·show(Zhq E1 Vr 82 9 wmT y.1).1=_
  unfold Zhq
  rw[show Zcy E1 Vr 82 9 wmT y.1=some (Zm7 x) from e];rfl
 ·show(Zhq E1 Vr 82 9 wmT y.1).2=_
  unfold Zhq
  rw[show Zcy E1 Vr 82 9 wmT y.1=some (Zm7 x) from e];rfl
theorem Yxd{p:List Nat}(hp:∀ j,j∈p↔(Zjg j).isSome=true){x:Int×Int×Int}(hx:x∈Kg):∃ e∈esM E1 Vr 82 9 wmT p,e.1=Zgk x.1 x.2.1∧e.2.1=.int .i64 x.2.2:=by
 obtain⟨j,hj⟩:=Yl8 x hx
 have hm:j∈p:=(hp j).2 (by rw[hj];rfl)
 obtain⟨i,hi,e⟩:=List.getElem_of_mem hm
 refine⟨((Zhq E1 Vr 82 9 wmT j).1,(Zhq E1 Vr 82 9 wmT j).2,i),?_,?_,?_⟩
 ·unfold esM
  refine List.mem_map.2 ⟨(j,i),?_,rfl⟩
  rw[List.mem_zipIdx_iff_getElem?,List.getElem?_eq_getElem hi,e]
 ·show(Zhq E1 Vr 82 9 wmT j).1=_
  unfold Zhq
  rw[show Zcy E1 Vr 82 9 wmT j=some (Zm7 x) from hj];rfl
 ·show(Zhq E1 Vr 82 9 wmT j).2=_
  unfold Zhq
  rw[show Zcy E1 Vr 82 9 wmT j=some (Zm7 x) from hj];rfl
theorem Yap:∀ x∈Kg,∀ y∈Kg,x.1=y.1→x.2.1=y.2.1→x=y:=by decide
theorem Y7h{p:List Nat}(hp:∀ j,j∈p↔(Zjg j).isSome=true)(t s:Int):Zc9 E1 (Xm 12 [.mp (esM E1 Vr 82 9 wmT p) p.length false]) 82 (.mapv 12) (Zgk t s) true=some (.tup [.int .i64 (Zi7 t s),.bool (Zjt t s)]):=by
 rw[Y4f]
 rcases Zhr (E:=E1) (kt:=81) (k:=Zgk t s) (esM E1 Vr 82 9 wmT p) 0 (fun e he=>by
  obtain⟨x,_,h1,_⟩:=esT hp he
  rw[h1,Yha];exact⟨_,rfl⟩) with⟨e,he,h1,q,h2⟩ | ⟨h1,h2⟩
 ·obtain⟨x,hx,e1,e2⟩:=esT hp he
  rw[h2,e2]
  rw[e1,Yha,Option.some.injEq,Bool.and_eq_true,Ya,Ya,decide_eq_true_iff,decide_eq_true_iff] at h1
  obtain⟨rfl,rfl⟩:=h1
  have hf:Zk7 x.1 x.2.1=some x:=by
   unfold Zk7
   have hs:(Kg.find? fun y=>Zd x.1 y.1&&Zd x.2.1 y.2.1).isSome=true:=by
    rw[List.find?_isSome]
    exact⟨x,hx,by simp[Ya]⟩
   obtain⟨y,hy⟩:=Option.isSome_iff_exists.1 hs
   rw[hy]
   have hm:=List.mem_of_find?_eq_some hy
   have hp2:=List.find?_some hy
   simp only[Bool.and_eq_true,Ya,decide_eq_true_iff] at hp2
   rw[Yap x hx y hm hp2.1 hp2.2]
  unfold Zi7 Zjt
  rw[hf]
  rfl
 ·rw[h2]
  have hf:Zk7 t s=none:=by
   unfold Zk7
   rw[List.find?_eq_none]
   intro x hx
   obtain⟨e,he,e1,_⟩:=Yxd hp hx
   have:=h1 e he
   rw[e1,Yha,Option.some.injEq] at this
   rw[this];decide
  unfold Zi7 Zjt
  rw[hf]
  rfl
theorem Z84{p:List Nat}(hp:∀ j,j∈p↔(Zjg j).isSome=true){keep:List Nat}:∀(es:List (AV×AV×Nat)),(∀ e∈es,e∈esM E1 Vr 82 9 wmT p)→Ybe 0 keep es=some es
 |[],_=>rfl
 |(k,v,c)::es,h=>by
  obtain⟨x,_,h1,h2⟩:=esT hp (h _ List.mem_cons_self)
  simp only at h1 h2
  subst h1 h2
  have:=Z84 hp (keep:=keep) es fun e he=>h e (List.mem_cons_of_mem _ he)
  simp only[Ybe,this,Zgk,rnV,Zds]
section
variable {P:Program} {I:List MEnt→AHeap→World→Prop} {ro:Option Nat}
theorem Yhl(hE:EnvOk E1 P I)(hI:Carried I)(t s:Int):Tri E1 P I ro fnT.body (Qa fnT [.int .i64 t,.int .i64 s]) (Xm 12 []) fun e fr H=>(e=.normal∨e=.ret)∧fr.df=[]∧∃ keep fr' H' l,Ren 12 keep fr H fr' H'∧K7 E1 fr'.t H' fnT.results=some l∧Zn9 l=.tup [.int .i64 (Zi7 t s),.bool (Zjt t s)]:=by
 have hs:Sound E1 P I ihT:=Zb9 hE 10
 refine Jb _ ?_
 rw[Y4q]
 refine Xy.leafX hE hI (l:=[Ygf]) (Y24 t s) (by decide) rfl rfl (fun j o o2 h=>by simp at h) (.inl ⟨rfl,?_⟩)
 refine Tri.mapLit hE hs litT rfl (by decide) 1 fun wm p fr' hwm hm nd hp hn hd hr h1 h2=>.inl ⟨rfl,?_⟩
 rw[Y11] at hwm
 cases hwm
 have hH:(Xm 12 []).new (.mp (esM E1 Vr 82 9 wmT p) p.length false)=Xm 12 [.mp (esM E1 Vr 82 9 wmT p) p.length false]:=rfl
 have w0:wmT.get 0=none:=by kernel_rfl
 have w1:wmT.get 1=none:=by kernel_rfl
 have g0:fr'.t.get 0=some (.int .i64 t):=h2 0 _ w0 (by kernel_rfl)
 have g1:fr'.t.get 1=some (.int .i64 s):=h2 1 _ w1 (by kernel_rfl)
 have g6:fr'.t.get 6=some (.mapv 12):=by
  have e:(Vr[14]?.map fun o=>(o.dst,Zpl E1 12 o))=some (some 6,some (.mapv 12)):=by kernel_rfl
  cases ho:Vr[14]? with
  |none=>rw[ho] at e;cases e
  |some o=>
   rw[ho] at e
   simp only[Option.map_some,Option.some.injEq,Prod.mk.injEq] at e
   exact h1 14 o 6 _ ho e.1 e.2
 rw[show(Xm E1.ng []).new (.mp (esM E1 Vr 82 9 wmT p) p.length false)=_ from hH]
 have r:Ren 12 (List.range 13) fr' (Xm 12 [.mp (esM E1 Vr 82 9 wmT p) p.length false]) (F0 t s) (Xm 12 [.mp (esM E1 Vr 82 9 wmT p) p.length false]):=by
  refine⟨fun g hg=>?_,fun i hi=>?_,List.nodup_range,rfl,fun k u hk=>?_,hn.symm,hr.symm,⟨hd,rfl⟩,fun i y hy=>?_⟩
  ·rw[List.getElem?_range (by omega)]
  ·rw[List.mem_range] at hi;exact hi
  ·obtain⟨j,rfl,hj⟩:=Zax hk
   refine⟨12+j,u,?_,hk,?_⟩
   ·have:j<1:=by
     have:=(List.getElem?_eq_some_iff.1 hj).1
     simpa using this
    rw[List.getElem?_range (by omega)]
   ·match j,hj with
    |0,hj=>
     cases hj
     exact⟨_,rfl,Z84 hp _ fun e he=>he⟩
    |j+1,hj=>simp at hj
  ·have:(i=0∧y=.int .i64 t)∨(i=1∧y=.int .i64 s)∨(i=6∧y=.mapv 12):=by
    have hy':(Zy2 [0,1,6] [.int .i64 t,.int .i64 s,.mapv 12]).get i=some y:=hy
    obtain⟨j,hj,hv⟩:=Zke hy'
    match j,hj,hv with
    |0,hj,hv=>cases hj;cases hv;exact .inl ⟨rfl,rfl⟩
    |1,hj,hv=>cases hj;cases hv;exact .inr (.inl ⟨rfl,rfl⟩)
    |2,hj,hv=>cases hj;cases hv;exact .inr (.inr ⟨rfl,rfl⟩)
    |j+3,hj,_=>simp at hj
   rcases this with⟨rfl,rfl⟩|⟨rfl,rfl⟩|⟨rfl,rfl⟩
   ·exact⟨_,g0,rfl⟩
   ·exact⟨_,g1,rfl⟩
   ·exact⟨_,g6,by kernel_rfl⟩
 refine Xy.ren hI r ?_
 have hc:Zhy E1 ihT [.region 2 Jw false] (F0 t s) (Xm 12 [.mp (esM E1 Vr 82 9 wmT p) p.length false])=some (.code .normal (F2 t s (Zi7 t s) (Zjt t s)) (Xm 12 [.mp (esM E1 Vr 82 9 wmT p) p.length false])):=by
  simp only[Zhy,Y9r t s _ _ _ _ (Y7h hp t s)]
 refine Xy.run hE hs (l:=[.region 2 Jw false]) hc (.inl ⟨rfl,?_⟩)
 show Xy E1 P I ro Zz1 _ _ _
 rw[←List.append_nil Zz1]
 refine Xy.run hE hs (m:=[]) (Y7t t s (Zi7 t s) (Zjt t s) _ _) (.inr ⟨(by intro h;cases h),.inr rfl,Y6l _ _ _ _,?_⟩)
 refine⟨List.range 12,Yx 27 [4,5] [.int .i64 (Zi7 t s),.bool (Zjt t s)],Xm 12 [],_,?_,Y3l _ _,rfl⟩
 refine⟨fun g hg=>?_,fun i hi=>?_,List.nodup_range,rfl,fun k u hk=>?_,nT3 _ _ _ _,rdT3 _ _ _ _,⟨Y6l _ _ _ _,rfl⟩,fun i y hy=>?_⟩
 ·rw[List.getElem?_range (by omega)]
 ·rw[List.mem_range] at hi
  show i<13
  omega
 ·obtain⟨j,_,hj⟩:=Zax hk
  simp at hj
 ·have hy':(Zy2 [4,5] [.int .i64 (Zi7 t s),.bool (Zjt t s)]).get i=some y:=hy
  obtain⟨j,hj,hv⟩:=Zke hy'
  match j,hj,hv with
  |0,hj,hv=>cases hj;cases hv;exact⟨_,g4T3 _ _ _ _,rfl⟩
  |1,hj,hv=>cases hj;cases hv;exact⟨_,g5T3 _ _ _ _,rfl⟩
  |j+2,hj,_=>simp at hj
end
def Z5q:Sm:=fun f args H=>match args with
 |[.int .i64 t,.int .i64 s]=>bif Nat.beq f 11 then some (.tup [.int .i64 (Zi7 t s),.bool (Zjt t s)],H) else none
 |_=>none
theorem Yuy:Zr Tryz.prog gl Z5q:=by
 intro f args H v H' M w cargs hs hw hr ha
 unfold Z5q at hs
 split at hs
 case h_2=>cases hs
 rename_i t s
 cases hc:Nat.beq f 11 with
 |false=>rw[hc] at hs;cases hs
 |true=>
  rw[hc] at hs
  rw[Nat.beq_eq] at hc
  subst hc
  simp only[cond_true,Option.some.injEq,Prod.mk.injEq] at hs
  obtain⟨rfl,rfl⟩:=hs
  match cargs,ha with
  |[c0,c1],⟨r0,r1,_⟩=>
   exact Zif (ex:=[]) (os:=[]) (args:=[.int .i64 t,.int .i64 s]) Ky Y37 hw hr rfl (fun o ho=>by cases ho) (fun j m o h=>by simp at h) ⟨r0,r1,trivial⟩ (fun _ _=>rfl) (Yhl (Ky w hw) (Zz hw) t s)
end
end Go.Proofs.YtaakhjmfojoodaaGreatDoor
