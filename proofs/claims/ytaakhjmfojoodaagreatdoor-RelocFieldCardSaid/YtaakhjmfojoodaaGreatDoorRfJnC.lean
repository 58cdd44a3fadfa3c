/- A relocation in an instruction of two bytes: the law holds. -/
import Derived.Test.YtaakhjmfojoodaaGreatDoorRfJn0
namespace Go.Proofs.YtaakhjmfojoodaaGreatDoor
open Go Go.Vai
noncomputable section
set_option maxRecDepth 100000
section
variable {ty s p:Int} {nm ins:List UInt8} {L:List UInt8} {a:Nat} (hf:Zr Tryz.prog gl (Zy 3 ty (Xj ty nm 49 2 0 ins))) (hi0:leq ins []=false) (hn:L.length<1000000) (ha:a+2≤L.length)
include hf hi0 hn ha
theorem rcx_s(hsh:L.length<a+4)(hb:Zd4 (Js L a)=true):Za7 3 ty a s p L:=by
 have eb:X1 L a=Js L a:=X7 (a:=a) hn (show a<_ by omega)
 exact⟨.ofNat 22,rfl,ans2 (er:=false) hf (rc_s SR ty s p nm ins hn ha hsh hi0 (by rw[eb];exact hb))⟩
theorem Y77(ha4:a+4≤L.length)(hb:Zd4 (Js L a)=true)(hD:Zd (rvDE (w4 L a)) (.ofNat 0)=false):Za7 3 ty a s p L:=by
 have e4:X4 L a=w4 L a:=Yw (Zt hn) ha4
 have eb:X1 L a=Js L a:=X7 (a:=a) hn (show a<_ by omega)
 exact⟨.ofNat 22,rfl,Jz (er:=false) hf (rc_d SR ty s p nm ins hn ha ha4 hi0 (by rw[eb];exact hb) (by rw[e4];exact hD))⟩
theorem Y56(ha4:a+4≤L.length)(hil:Zv ins≤1000)(hb:Zd4 (Js L a)=true)(hD:Zd (rvDE (w4 L a)) (.ofNat 0)=true)(hI:Yq ins (([32]++rvDN (w4 L a))++[32])=false):Za7 3 ty a s p L:=by
 have e4:X4 L a=w4 L a:=Yw (Zt hn) ha4
 have eb:X1 L a=Js L a:=X7 (a:=a) hn (show a<_ by omega)
 exact⟨.ofNat 22,rfl,Jz (er:=false) hf (rc_c SR ty s p nm ins hn ha ha4 hil (Qk _) hi0 (by rw[eb];exact hb) (by rw[e4];exact hD) (by rw[e4];exact hI))⟩
theorem Y23(hb:Zd4 (Js L a)=false)(hD:Zd (coDE (w2 L a)) (.ofNat 0)=false):Za7 3 ty a s p L:=by
 have e2:X2 L a=w2 L a:=J8 (Zt hn) ha
 have eb:X1 L a=Js L a:=X7 (a:=a) hn (show a<_ by omega)
 exact⟨.ofNat 22,rfl,Jz (er:=false) hf (Y72 SR ty s p nm ins hn ha hi0 (by rw[eb];exact hb) (by rw[e2];exact hD))⟩
theorem Y2e(hil:Zv ins≤1000)(hb:Zd4 (Js L a)=false)(hD:Zd (coDE (w2 L a)) (.ofNat 0)=true)(hI:Yq ins (([32]++coDN (w2 L a))++[32])=false):Za7 3 ty a s p L:=by
 have e2:X2 L a=w2 L a:=J8 (Zt hn) ha
 have eb:X1 L a=Js L a:=X7 (a:=a) hn (show a<_ by omega)
 exact⟨.ofNat 22,rfl,Jz (er:=false) hf (Y86 SR ty s p nm ins hn ha hil (Zcv _) hi0 (by rw[eb];exact hb) (by rw[e2];exact hD) (by rw[e2];exact hI))⟩
theorem Y5v(hil:Zv ins≤1000)(hb:Zd4 (Js L a)=false)(hD:Zd (coDE (w2 L a)) (.ofNat 0)=true)(hI:Yq ins (([32]++coDN (w2 L a))++[32])=true)(hG:coG (coDN (w2 L a))=true)(hE:Zd (SR.coEx (w2 L a) (Za .i64 (Za .u64 (Int.sub s p)))) (.ofNat 0)=false):Za7 3 ty a s p L:=by
 have e2:X2 L a=w2 L a:=J8 (Zt hn) ha
 have eb:X1 L a=Js L a:=X7 (a:=a) hn (show a<_ by omega)
 exact⟨.ofNat 17,rfl,Jz (er:=true) hf (rc_e SR ty s p nm ins hn ha hil (Zcv _) (by rw[e2];exact(Ykj hD)) hi0 (by rw[eb];exact hb) (by rw[e2];exact hD) (by rw[e2];exact hI) (by rw[e2];exact(Yll hD)) (by rw[e2];exact hG) (by rw[e2];exact hE))⟩
theorem Y0e(hil:Zv ins≤1000)(hb:Zd4 (Js L a)=false)(hD:Zd (coDE (w2 L a)) (.ofNat 0)=true)(hI:Yq ins (([32]++coDN (w2 L a))++[32])=true)(hG:coG (coDN (w2 L a))=true)(hE:Zd (SR.coEx (w2 L a) (Za .i64 (Za .u64 (Int.sub s p)))) (.ofNat 0)=true):Zab Tryz.prog gl 5 5 (.ofNat 3) ty (.ofNat a) s p L (.ofNat 0) (some (Y5 L a (by2 (SR.coWx (w2 L a) (Za .i64 (Za .u64 (Int.sub s p))))))):=by
 have e2:X2 L a=w2 L a:=J8 (Zt hn) ha
 have eb:X1 L a=Js L a:=X7 (a:=a) hn (show a<_ by omega)
 have k:=rc_k SR ty s p nm ins hn ha hil (Zcv _) (by rw[e2];exact(Ykj hD)) hi0 (by rw[eb];exact hb) (by rw[e2];exact hD) (by rw[e2];exact hI) (by rw[e2];exact(Yll hD)) (by rw[e2];exact hG) (by rw[e2];exact hE)
 rw[e2] at k
 exact Jz (er:=false) hf k
end
theorem j_rc{ty s p:Int}{ins:List UInt8}{Q:RfI}(hf:Zr Tryz.prog gl (Zy 3 ty (Xj ty Q.nm Q.V 2 Q.ck ins)))(hV:Q.V=49)(hK:Q.ck=0)(hr:Zr Tryz.prog gl (Xl 3 ty Q true))(hm:Q.m≠0)(hil:Zv ins≤1000)(hi0:leq ins []=false)(hc:Zon ins=true)
  {L:List UInt8} {a:Nat} (h400:L.length≤400) (ha:a+2≤L.length):X0 (.ofNat 3) ty L (.ofNat a) s p:=by
 have hf2:=hf
 rw[hV,hK] at hf2
 have hn:L.length<1000000:=by omega
 cases hb:Zd4 (Js L a) with
 |true=>
  by_cases ha4:a+4≤L.length
  ·cases h0:Zd (rvDE (w4 L a)) (.ofNat 0) with
   |false=>exact(Y77 hf2 hi0 hn ha ha4 hb h0).law h400
   |true=>exact(Y56 hf2 hi0 hn ha ha4 hil hb h0 (Y6j hc h0)).law h400
  ·exact(rcx_s hf2 hi0 hn ha (by omega) hb).law h400
 |false=>
  cases h0:Zd (coDE (w2 L a)) (.ofNat 0) with
  |false=>exact(Y23 hf2 hi0 hn ha hb h0).law h400
  |true=>
   cases h1:Yq ins (([32]++coDN (w2 L a))++[32]) with
   |false=>exact(Y2e hf2 hi0 hn ha hil hb h0 h1).law h400
   |true=>
    have hG:=insC hc h0 h1
    cases h2:Zd (SR.coEx (w2 L a) (Za .i64 (Za .u64 (Int.sub s p)))) (.ofNat 0) with
    |false=>exact(Y5v hf2 hi0 hn ha hil hb h0 h1 hG h2).law h400
    |true=>
     obtain⟨W,eW,hW,hlow,e0,e1,e2,e3,e4,e5⟩:=Yyu hG h2
     have k1:=Y0e hf2 hi0 hn ha hil hb h0 h1 hG h2
     rw[show SR.coWx (w2 L a) (Za .i64 (Za .u64 (Int.sub s p)))=W from eW] at k1
     have hl2:(Y5 L a (by2 W)).length=L.length:=Z7 ..
     have hn2:(Y5 L a (by2 W)).length<1000000:=by rw[hl2];exact hn
     have ha2:a+2≤(Y5 L a (by2 W)).length:=by rw[hl2];exact ha
     have hw2:w2 (Y5 L a (by2 W)) a=W:=Yxj ha hW
     have hb2:Zd4 (Js (Y5 L a (by2 W)) a)=false:=by
      rw[Z8w (bs:=by2 W) (W:=W) ha rfl]
      exact hlow
     have h22:Zd (SR.coEx W (Za .i64 (Za .u64 (Int.sub s p)))) (.ofNat 0)=true:=by
      show Zd (coEE (coDN W) (coDA W) (coDB W) (coDC W) (coDD W) _) (.ofNat 0)=true
      rw[e0,e1,e2,e3,e4]
      exact h2
     have k2:=Y0e hf2 hi0 hn2 ha2 hil hb2 (by rw[hw2];exact e5) (by rw[hw2,e0];exact h1) (by rw[hw2,e0];exact hG) (by rw[hw2];exact h22)
     have eW2:SR.coWx W (Za .i64 (Za .u64 (Int.sub s p)))=W:=by
      show coEW (coDN W) (coDA W) (coDB W) (coDC W) (coDD W) _=W
      rw[e0,e1,e2,e3,e4]
      exact eW
     rw[hw2,eW2,Zev (bs:=by2 W) ha] at k2
     have q1:Qb (bT L) a=w2 L a:=Z8r (Zj hn) ha
     have q2:Qb (bT (Y5 L a (by2 W))) a=W:=(Z8r (Zj hn2) ha2).trans hw2
     intro c hlc
     refine⟨ELk SR 3 ty (.ofNat a) s p 2 ins true Q (GL L (Y5 L a (by2 W))) (Y5 L a (by2 W)),SLk SR 3 ty (.ofNat a) s p 2 ins true Q (GL L (Y5 L a (by2 W))) (Y5 L a (by2 W)),pO 61 2269972610588606464,Zx6 (two k1 k2) hf hr,by kernel_rfl,rfl,Zxy _ _ _ _ _ _ _ _ _ _ _ _,?_⟩
     exact lkc SR ty s p ins Q h400 hl2 hlc ha (gl1 _ _) (gl2 _ _) (Zg9 (bs:=by2 W) ha) (Zg1 (bs:=by2 W) ha) hm (by rw[Zns hn (show a<_ by omega)];exact hb) (by rw[Zns hn2 (show a<_ by omega)];exact hb2) (by rw[q1];exact h0) (by rw[q2];exact e5) (by rw[q1,q2];exact e0) (by rw[q1,q2];exact e1) (by rw[q1,q2];exact e2) (by rw[q1,q2];exact e3) (by rw[q1,q2];exact e4)
end
end Go.Proofs.YtaakhjmfojoodaaGreatDoor
namespace Go.Proofs.YtaakhjmfojoodaaGreatDoor
open Go Go.Vai
noncomputable section
set_option maxRecDepth 100000
theorem jB{t sz:Nat}{ty s p:Int}{Q:RfI}{B:List UInt8}(hf:Zr Tryz.prog gl (Zy t ty (Xj ty Q.nm Q.V sz Q.ck [])))(hr:Zr Tryz.prog gl (Xl t ty Q false)){L:List UInt8}{a:Nat}(h400:L.length≤400)(ha:a+sz≤L.length)(hs:B.length=sz)
  (K:∀{L:List UInt8},L.length<1000000→a+sz≤L.length→Zab Tryz.prog gl 5 5 (.ofNat t) ty (.ofNat a) s p L (.ofNat 0) (some (Y5 L a B)))
  (LB:∀{G:List UInt8→Bool}{L L2:List UInt8}{a c:Nat},L.length≤400→L2.length=L.length→L.length≤c→a+sz≤L.length→G L=true→G L2=true→L2.take a=L.take a→L2.drop (a+sz)=L.drop (a+sz)→lk SR t ty a s p sz [] false Q G L2 c L.length (bT L) 34 8589934592=some (.bool true)):X0 (.ofNat t) ty L (.ofNat a) s p:=by
 have hn:L.length<1000000:=by omega
 have k1:=K hn ha
 have ha1:a+B.length≤L.length:=by rw[hs];exact ha
 have hl2:(Y5 L a B).length=L.length:=Z7 ..
 have k2:=K (L:=Y5 L a B) (by rw[hl2];exact hn) (by rw[hl2];exact ha)
 rw[Zev ha1] at k2
 have hd:=Zg1 ha1
 rw[hs] at hd
 intro c hlc
 exact⟨ELk SR t ty (.ofNat a) s p sz [] false Q (GL L (Y5 L a B)) (Y5 L a B),SLk SR t ty (.ofNat a) s p sz [] false Q (GL L (Y5 L a B)) (Y5 L a B),pO 34 8589934592,Zx6 (two k1 k2) hf hr,by kernel_rfl,rfl,Zxy _ _ _ _ _ _ _ _ _ _ _ _,LB h400 hl2 hlc ha (gl1 _ _) (gl2 _ _) (Zg9 ha1) hd⟩
theorem Zw8{ty s p:Int}{Q:RfI}(hf:Zr Tryz.prog gl (Zy 1 ty (Xj ty Q.nm Q.V 1 Q.ck [])))(hV:Q.V=49)(hK:Q.ck=1)(hr:Zr Tryz.prog gl (Xl 1 ty Q false))
  {L:List UInt8} {a:Nat} (h400:L.length≤400) (ha:a+1≤L.length):X0 (.ofNat 1) ty L (.ofNat a) s p:=by
 have hf2:=hf
 rw[hV,hK] at hf2
 have hn:L.length<1000000:=by omega
 cases hf0:SR.fit (.ofNat 1) (.ofNat 1) (Za .i64 (Za .u64 (Int.sub s p))) with
 |false=>exact Za7.law ⟨.ofNat 17,rfl,Jz (er:=false) hf2 (Zxn SR ty s p Q.nm hn ha hf0)⟩ h400
 |true=>
  exact jB hf hr h400 ha rfl (fun{L} hn ha=>Jz (er:=false) hf2 (Zxa SR ty s p Q.nm hn ha hf0)) fun a1 a2 a3 a4 a5 a6 a7 a8=>lb1 SR ty s p Q 1 a1 a2 a3 a4 a5 a6 a7 a8
theorem Zj4{ty s p:Int}{Q:RfI}(hf:Zr Tryz.prog gl (Zy 1 ty (Xj ty Q.nm Q.V 4 Q.ck [])))(hV:Q.V=49)(hK:Q.ck=1)(hr:Zr Tryz.prog gl (Xl 1 ty Q false))
  {L:List UInt8} {a:Nat} (h400:L.length≤400) (ha:a+4≤L.length):X0 (.ofNat 1) ty L (.ofNat a) s p:=by
 have hf2:=hf
 rw[hV,hK] at hf2
 have hn:L.length<1000000:=by omega
 cases hf0:SR.fit (.ofNat 4) (.ofNat 1) (Za .i64 (Za .u64 (Int.sub s p))) with
 |false=>exact Za7.law ⟨.ofNat 17,rfl,Jz (er:=false) hf2 (Zwb SR ty s p Q.nm hn ha hf0)⟩ h400
 |true=>
  exact jB hf hr h400 ha rfl (fun{L} hn ha=>Jz (er:=false) hf2 (Zwh SR ty s p Q.nm hn ha hf0)) fun a1 a2 a3 a4 a5 a6 a7 a8=>lb4 SR ty s p Q 1 a1 a2 a3 a4 a5 a6 a7 a8
theorem Zht{ty s p:Int}{Q:RfI}(hf:Zr Tryz.prog gl (Zy 1 ty (Xj ty Q.nm Q.V 4 Q.ck [])))(hV:Q.V=48)(hK:Q.ck=1)(hr:Zr Tryz.prog gl (Xl 1 ty Q false))
  {L:List UInt8} {a:Nat} (h400:L.length≤400) (ha:a+4≤L.length):X0 (.ofNat 1) ty L (.ofNat a) s p:=by
 have hf2:=hf
 rw[hV,hK] at hf2
 have hn:L.length<1000000:=by omega
 cases hf0:SR.fit (.ofNat 4) (.ofNat 1) (Za .i64 s) with
 |false=>exact Za7.law ⟨.ofNat 17,rfl,Jz (er:=false) hf2 (Zrp SR ty s p Q.nm hn ha hf0)⟩ h400
 |true=>
  exact jB hf hr h400 ha rfl (fun{L} hn ha=>Jz (er:=false) hf2 (Zr6 SR ty s p Q.nm hn ha hf0)) fun a1 a2 a3 a4 a5 a6 a7 a8=>lb4 SR ty s p Q 1 a1 a2 a3 a4 a5 a6 a7 a8
theorem Zrh{ty s p:Int}{Q:RfI}(hf:Zr Tryz.prog gl (Zy 1 ty (Xj ty Q.nm Q.V 4 Q.ck [])))(hV:Q.V=48)(hK:Q.ck=2)(hr:Zr Tryz.prog gl (Xl 1 ty Q false))
  {L:List UInt8} {a:Nat} (h400:L.length≤400) (ha:a+4≤L.length):X0 (.ofNat 1) ty L (.ofNat a) s p:=by
 have hf2:=hf
 rw[hV,hK] at hf2
 have hn:L.length<1000000:=by omega
 cases hf0:SR.fit (.ofNat 4) (.ofNat 2) (Za .i64 s) with
 |false=>exact Za7.law ⟨.ofNat 17,rfl,Jz (er:=false) hf2 (Zsb SR ty s p Q.nm hn ha hf0)⟩ h400
 |true=>
  exact jB hf hr h400 ha rfl (fun{L} hn ha=>Jz (er:=false) hf2 (Zq8 SR ty s p Q.nm hn ha hf0)) fun a1 a2 a3 a4 a5 a6 a7 a8=>lb4 SR ty s p Q 1 a1 a2 a3 a4 a5 a6 a7 a8
theorem Zqx{ty s p:Int}{Q:RfI}(hf:Zr Tryz.prog gl (Zy 1 ty (Xj ty Q.nm Q.V 8 Q.ck [])))(hV:Q.V=48)(hK:Q.ck=0)(hr:Zr Tryz.prog gl (Xl 1 ty Q false))
  {L:List UInt8} {a:Nat} (h400:L.length≤400) (ha:a+8≤L.length):X0 (.ofNat 1) ty L (.ofNat a) s p:=by
 have hf2:=hf
 rw[hV,hK] at hf2
 have hn:L.length<1000000:=by omega
 have hf0:SR.fit (.ofNat 8) (.ofNat 0) (Za .i64 s)=true:=rfl
 exact jB hf hr h400 ha rfl (fun{L} hn ha=>Jz (er:=false) hf2 (Zqs SR ty s p Q.nm hn ha hf0)) fun a1 a2 a3 a4 a5 a6 a7 a8=>lb8 SR ty s p Q 1 a1 a2 a3 a4 a5 a6 a7 a8
theorem Zxe{ty s p:Int}{Q:RfI}(hf:Zr Tryz.prog gl (Zy 2 ty (Xj ty Q.nm Q.V 4 Q.ck [])))(hV:Q.V=49)(hK:Q.ck=1)(hr:Zr Tryz.prog gl (Xl 2 ty Q false))
  {L:List UInt8} {a:Nat} (h400:L.length≤400) (ha:a+4≤L.length):X0 (.ofNat 2) ty L (.ofNat a) s p:=by
 have hf2:=hf
 rw[hV,hK] at hf2
 have hn:L.length<1000000:=by omega
 cases hf0:SR.fit (.ofNat 4) (.ofNat 1) (Za .i64 (Za .u64 (Int.sub s p))) with
 |false=>exact Za7.law ⟨.ofNat 17,rfl,Jz (er:=false) hf2 (Zvy SR ty s p Q.nm hn ha hf0)⟩ h400
 |true=>
  exact jB hf hr h400 ha rfl (fun{L} hn ha=>Jz (er:=false) hf2 (Zw2 SR ty s p Q.nm hn ha hf0)) fun a1 a2 a3 a4 a5 a6 a7 a8=>lb4 SR ty s p Q 2 a1 a2 a3 a4 a5 a6 a7 a8
theorem Zqr{ty s p:Int}{Q:RfI}(hf:Zr Tryz.prog gl (Zy 2 ty (Xj ty Q.nm Q.V 4 Q.ck [])))(hV:Q.V=48)(hK:Q.ck=3)(hr:Zr Tryz.prog gl (Xl 2 ty Q false))
  {L:List UInt8} {a:Nat} (h400:L.length≤400) (ha:a+4≤L.length):X0 (.ofNat 2) ty L (.ofNat a) s p:=by
 have hf2:=hf
 rw[hV,hK] at hf2
 have hn:L.length<1000000:=by omega
 cases hf0:SR.fit (.ofNat 4) (.ofNat 3) (Za .i64 s) with
 |false=>exact Za7.law ⟨.ofNat 17,rfl,Jz (er:=false) hf2 (Zrj SR ty s p Q.nm hn ha hf0)⟩ h400
 |true=>
  exact jB hf hr h400 ha rfl (fun{L} hn ha=>Jz (er:=false) hf2 (Zrg SR ty s p Q.nm hn ha hf0)) fun a1 a2 a3 a4 a5 a6 a7 a8=>lb4 SR ty s p Q 2 a1 a2 a3 a4 a5 a6 a7 a8
theorem Zr1{ty s p:Int}{Q:RfI}(hf:Zr Tryz.prog gl (Zy 2 ty (Xj ty Q.nm Q.V 8 Q.ck [])))(hV:Q.V=48)(hK:Q.ck=0)(hr:Zr Tryz.prog gl (Xl 2 ty Q false))
  {L:List UInt8} {a:Nat} (h400:L.length≤400) (ha:a+8≤L.length):X0 (.ofNat 2) ty L (.ofNat a) s p:=by
 have hf2:=hf
 rw[hV,hK] at hf2
 have hn:L.length<1000000:=by omega
 have hf0:SR.fit (.ofNat 8) (.ofNat 0) (Za .i64 s)=true:=rfl
 exact jB hf hr h400 ha rfl (fun{L} hn ha=>Jz (er:=false) hf2 (Zrz SR ty s p Q.nm hn ha hf0)) fun a1 a2 a3 a4 a5 a6 a7 a8=>lb8 SR ty s p Q 2 a1 a2 a3 a4 a5 a6 a7 a8
theorem Zwk{ty s p:Int}{Q:RfI}(hf:Zr Tryz.prog gl (Zy 3 ty (Xj ty Q.nm Q.V 4 Q.ck [])))(hV:Q.V=49)(hK:Q.ck=1)(hr:Zr Tryz.prog gl (Xl 3 ty Q false))
  {L:List UInt8} {a:Nat} (h400:L.length≤400) (ha:a+4≤L.length):X0 (.ofNat 3) ty L (.ofNat a) s p:=by
 have hf2:=hf
 rw[hV,hK] at hf2
 have hn:L.length<1000000:=by omega
 cases hf0:SR.fit (.ofNat 4) (.ofNat 1) (Za .i64 (Za .u64 (Int.sub s p))) with
 |false=>exact Za7.law ⟨.ofNat 17,rfl,Jz (er:=false) hf2 (Zxv SR ty s p Q.nm hn ha hf0)⟩ h400
 |true=>
  exact jB hf hr h400 ha rfl (fun{L} hn ha=>Jz (er:=false) hf2 (Zxq SR ty s p Q.nm hn ha hf0)) fun a1 a2 a3 a4 a5 a6 a7 a8=>lb4 SR ty s p Q 3 a1 a2 a3 a4 a5 a6 a7 a8
theorem Zq1{ty s p:Int}{Q:RfI}(hf:Zr Tryz.prog gl (Zy 3 ty (Xj ty Q.nm Q.V 4 Q.ck [])))(hV:Q.V=48)(hK:Q.ck=3)(hr:Zr Tryz.prog gl (Xl 3 ty Q false))
  {L:List UInt8} {a:Nat} (h400:L.length≤400) (ha:a+4≤L.length):X0 (.ofNat 3) ty L (.ofNat a) s p:=by
 have hf2:=hf
 rw[hV,hK] at hf2
 have hn:L.length<1000000:=by omega
 cases hf0:SR.fit (.ofNat 4) (.ofNat 3) (Za .i64 s) with
 |false=>exact Za7.law ⟨.ofNat 17,rfl,Jz (er:=false) hf2 (Zre SR ty s p Q.nm hn ha hf0)⟩ h400
 |true=>
  exact jB hf hr h400 ha rfl (fun{L} hn ha=>Jz (er:=false) hf2 (Zr5 SR ty s p Q.nm hn ha hf0)) fun a1 a2 a3 a4 a5 a6 a7 a8=>lb4 SR ty s p Q 3 a1 a2 a3 a4 a5 a6 a7 a8
theorem Zqu{ty s p:Int}{Q:RfI}(hf:Zr Tryz.prog gl (Zy 3 ty (Xj ty Q.nm Q.V 8 Q.ck [])))(hV:Q.V=48)(hK:Q.ck=0)(hr:Zr Tryz.prog gl (Xl 3 ty Q false))
  {L:List UInt8} {a:Nat} (h400:L.length≤400) (ha:a+8≤L.length):X0 (.ofNat 3) ty L (.ofNat a) s p:=by
 have hf2:=hf
 rw[hV,hK] at hf2
 have hn:L.length<1000000:=by omega
 have hf0:SR.fit (.ofNat 8) (.ofNat 0) (Za .i64 s)=true:=rfl
 exact jB hf hr h400 ha rfl (fun{L} hn ha=>Jz (er:=false) hf2 (Zsa SR ty s p Q.nm hn ha hf0)) fun a1 a2 a3 a4 a5 a6 a7 a8=>lb8 SR ty s p Q 3 a1 a2 a3 a4 a5 a6 a7 a8
end
end Go.Proofs.YtaakhjmfojoodaaGreatDoor
namespace Go.Proofs.YtaakhjmfojoodaaGreatDoor
open Go Go.Vai
noncomputable section
set_option maxRecDepth 100000
theorem Y2i{s p:Int}{L:List UInt8}{a:Nat}(h400:L.length≤400)(ha:a+8≤L.length):X0 (.ofNat 1) (.ofNat 1) L (.ofNat a) s p:=Zqx Yy4 rfl rfl Y95 h400 ha
theorem Y4x{s p:Int}{L:List UInt8}{a:Nat}(h400:L.length≤400)(ha:a+4≤L.length):X0 (.ofNat 1) (.ofNat 2) L (.ofNat a) s p:=Zj4 Yyr rfl rfl Y8w h400 ha
theorem Y0t{s p:Int}{L:List UInt8}{a:Nat}(h400:L.length≤400)(ha:a+4≤L.length):X0 (.ofNat 1) (.ofNat 4) L (.ofNat a) s p:=Zj4 Yy0 rfl rfl rf1_4 h400 ha
theorem Yvn{s p:Int}{L:List UInt8}{a:Nat}(h400:L.length≤400)(ha:a+4≤L.length):X0 (.ofNat 1) (.ofNat 10) L (.ofNat a) s p:=Zrh Yky rfl rfl Y3s h400 ha
theorem Yx0{s p:Int}{L:List UInt8}{a:Nat}(h400:L.length≤400)(ha:a+4≤L.length):X0 (.ofNat 1) (.ofNat 11) L (.ofNat a) s p:=Zht Yo2 rfl rfl Y3g h400 ha
theorem Yx5{s p:Int}{L:List UInt8}{a:Nat}(h400:L.length≤400)(ha:a+4≤L.length):X0 (.ofNat 1) (.ofNat 23) L (.ofNat a) s p:=Zht Ymg rfl rfl Y3b h400 ha
theorem Yyb{s p:Int}{L:List UInt8}{a:Nat}(h400:L.length≤400)(ha:a+1≤L.length):X0 (.ofNat 1) (.ofNat 15) L (.ofNat a) s p:=Zw8 Ysb rfl rfl Y4r h400 ha
theorem Yp7{s p:Int}{L:List UInt8}{a:Nat}(h400:L.length≤400)(ha:a+8≤L.length):X0 (.ofNat 2) (.ofNat 257) L (.ofNat a) s p:=Zr1 Ydj rfl rfl Yvw h400 ha
theorem Ysa{s p:Int}{L:List UInt8}{a:Nat}(h400:L.length≤400)(ha:a+4≤L.length):X0 (.ofNat 2) (.ofNat 258) L (.ofNat a) s p:=Zqr Ydu rfl rfl Yvp h400 ha
theorem Ynm{s p:Int}{L:List UInt8}{a:Nat}(h400:L.length≤400)(ha:a+4≤L.length):X0 (.ofNat 2) (.ofNat 261) L (.ofNat a) s p:=Zxe Yat rfl rfl Yun h400 ha
theorem cn_0:Zbt [32,97,100,114,32]=true:=by kernel_rfl
theorem Ygk{s p:Int}{L:List UInt8}{a:Nat}(h400:L.length≤400)(ha:a+4≤L.length):X0 (.ofNat 2) (.ofNat 274) L (.ofNat a) s p:=Zgy Ycb rfl rfl Yu5 (by decide) (by decide) rfl cn_0 h400 ha
theorem cn_1:Zbt [32,97,100,114,112,32]=true:=by kernel_rfl
theorem Ymi{s p:Int}{L:List UInt8}{a:Nat}(h400:L.length≤400)(ha:a+4≤L.length):X0 (.ofNat 2) (.ofNat 275) L (.ofNat a) s p:=Z4a Ycq rfl rfl Ys4 (by decide) (by decide) rfl cn_1 h400 ha
theorem Y3f:Zbt [32,97,100,100,46,105,32]=true:=by kernel_rfl
theorem Yi9{s p:Int}{L:List UInt8}{a:Nat}(h400:L.length≤400)(ha:a+4≤L.length):X0 (.ofNat 2) (.ofNat 277) L (.ofNat a) s p:=Zaf Ya1 rfl rfl Yxq (by decide) (by decide) rfl Y3f h400 ha
theorem Ynt{s p:Int}{L:List UInt8}{a:Nat}(h400:L.length≤400)(ha:a+4≤L.length):X0 (.ofNat 2) (.ofNat 551) L (.ofNat a) s p:=Zaf Yaz rfl rfl Yvm (by decide) (by decide) rfl Y3f h400 ha
theorem Yla{s p:Int}{L:List UInt8}{a:Nat}(h400:L.length≤400)(ha:a+4≤L.length):X0 (.ofNat 2) (.ofNat 549) L (.ofNat a) s p:=Z2h Yd7 rfl rfl Yxo (by decide) (by decide) rfl Y3f h400 ha
theorem cn_3:Zbt [32,108,100,114,98,32,115,116,114,98,32]=true:=by kernel_rfl
theorem Yrm{s p:Int}{L:List UInt8}{a:Nat}(h400:L.length≤400)(ha:a+4≤L.length):X0 (.ofNat 2) (.ofNat 278) L (.ofNat a) s p:=Zaf Yak rfl rfl Yyj (by decide) (by decide) rfl cn_3 h400 ha
theorem cn_4:Zbt [32,108,100,114,104,32,115,116,114,104,32]=true:=by kernel_rfl
theorem Yki{s p:Int}{L:List UInt8}{a:Nat}(h400:L.length≤400)(ha:a+4≤L.length):X0 (.ofNat 2) (.ofNat 284) L (.ofNat a) s p:=Zaf Ybp rfl rfl Yv1 (by decide) (by decide) rfl cn_4 h400 ha
theorem cn_5:Zbt [32,108,100,114,46,119,32,115,116,114,46,119,32,108,100,114,115,119,32]=true:=by kernel_rfl
theorem Ygt{s p:Int}{L:List UInt8}{a:Nat}(h400:L.length≤400)(ha:a+4≤L.length):X0 (.ofNat 2) (.ofNat 285) L (.ofNat a) s p:=Zaf Ybk rfl rfl Yvo (by decide) (by decide) rfl cn_5 h400 ha
theorem cn_6:Zbt [32,108,100,114,32,115,116,114,32]=true:=by kernel_rfl
theorem Yi3{s p:Int}{L:List UInt8}{a:Nat}(h400:L.length≤400)(ha:a+4≤L.length):X0 (.ofNat 2) (.ofNat 286) L (.ofNat a) s p:=Zaf Z93 rfl rfl Yw5 (by decide) (by decide) rfl cn_6 h400 ha
theorem cn_7:Zbt [32,98,46,99,32,99,98,122,32,99,98,110,122,32]=true:=by kernel_rfl
theorem Yp4{s p:Int}{L:List UInt8}{a:Nat}(h400:L.length≤400)(ha:a+4≤L.length):X0 (.ofNat 2) (.ofNat 280) L (.ofNat a) s p:=Zgy Yds rfl rfl Yyz (by decide) (by decide) rfl cn_7 h400 ha
theorem cn_8:Zbt [32,98,32]=true:=by kernel_rfl
theorem Ylh{s p:Int}{L:List UInt8}{a:Nat}(h400:L.length≤400)(ha:a+4≤L.length):X0 (.ofNat 2) (.ofNat 282) L (.ofNat a) s p:=Zgy Ycs rfl rfl Ys2 (by decide) (by decide) rfl cn_8 h400 ha
theorem cn_9:Zbt [32,98,108,32]=true:=by kernel_rfl
theorem Yo4{s p:Int}{L:List UInt8}{a:Nat}(h400:L.length≤400)(ha:a+4≤L.length):X0 (.ofNat 2) (.ofNat 283) L (.ofNat a) s p:=Zgy Yc6 rfl rfl Yyk (by decide) (by decide) rfl cn_9 h400 ha
theorem Y49{s p:Int}{L:List UInt8}{a:Nat}(h400:L.length≤400)(ha:a+4≤L.length):X0 (.ofNat 3) (.ofNat 1) L (.ofNat a) s p:=Zq1 Yv0 rfl rfl rf3_1 h400 ha
theorem Y06{s p:Int}{L:List UInt8}{a:Nat}(h400:L.length≤400)(ha:a+8≤L.length):X0 (.ofNat 3) (.ofNat 2) L (.ofNat a) s p:=Zqu Yyq rfl rfl Y9y h400 ha
theorem Yu9{s p:Int}{L:List UInt8}{a:Nat}(h400:L.length≤400)(ha:a+4≤L.length):X0 (.ofNat 3) (.ofNat 57) L (.ofNat a) s p:=Zwk Ysf rfl rfl Y1k h400 ha
theorem Y7j:Zcq [32,98,101,113,32,98,110,101,32,98,108,116,32,98,103,101,32,98,108,116,117,32,98,103,101,117,32]=true:=by kernel_rfl
theorem Yv7{s p:Int}{L:List UInt8}{a:Nat}(h400:L.length≤400)(ha:a+4≤L.length):X0 (.ofNat 3) (.ofNat 16) L (.ofNat a) s p:=Zse Yp0 rfl rfl Y0v (by decide) (by decide) rfl Y7j h400 ha
theorem cn_11:Zcq [32,106,97,108,32]=true:=by kernel_rfl
theorem Yu8{s p:Int}{L:List UInt8}{a:Nat}(h400:L.length≤400)(ha:a+4≤L.length):X0 (.ofNat 3) (.ofNat 17) L (.ofNat a) s p:=Zse Yoq rfl rfl Y1a (by decide) (by decide) rfl cn_11 h400 ha
theorem Y6m:Zon [32,99,46,98,101,113,122,32,99,46,98,110,101,122,32]=true:=by kernel_rfl
theorem Yvv{s p:Int}{L:List UInt8}{a:Nat}(h400:L.length≤400)(ha:a+2≤L.length):X0 (.ofNat 3) (.ofNat 44) L (.ofNat a) s p:=j_rc Ynz rfl rfl Y2m (by decide) (by decide) rfl Y6m h400 ha
theorem cn_13:Zon [32,99,46,106,32]=true:=by kernel_rfl
theorem Yuh{s p:Int}{L:List UInt8}{a:Nat}(h400:L.length≤400)(ha:a+2≤L.length):X0 (.ofNat 3) (.ofNat 45) L (.ofNat a) s p:=j_rc Yfe rfl rfl Y3h (by decide) (by decide) rfl cn_13 h400 ha
theorem Y0f:Zcq [32,108,117,105,32]=true:=by kernel_rfl
theorem Ywc{s p:Int}{L:List UInt8}{a:Nat}(h400:L.length≤400)(ha:a+4≤L.length):X0 (.ofNat 3) (.ofNat 26) L (.ofNat a) s p:=Zt6 Yks rfl rfl Y3z (by decide) (by decide) rfl Y0f h400 ha
theorem Yvl{s p:Int}{L:List UInt8}{a:Nat}(h400:L.length≤400)(ha:a+4≤L.length):X0 (.ofNat 3) (.ofNat 29) L (.ofNat a) s p:=Zt6 Yhv rfl rfl Y26 (by decide) (by decide) rfl Y0f h400 ha
theorem Y6s:Zcq [32,97,117,105,112,99,32]=true:=by kernel_rfl
theorem Ywy{s p:Int}{L:List UInt8}{a:Nat}(h400:L.length≤400)(ha:a+4≤L.length):X0 (.ofNat 3) (.ofNat 23) L (.ofNat a) s p:=Zrk Yrq rfl rfl Y2u (by decide) (by decide) rfl Y6s h400 ha
theorem Ye4:Zcq [32,97,100,100,105,32,115,108,116,105,32,115,108,116,105,117,32,120,111,114,105,32,111,114,105,32,97,110,100,105,32,97,100,100,105,119,32,108,98,32,108,104,32,108,119,32,108,100,32,108,98,117,32,108,104,117,32,108,119,117,32,106,97,108,114,32]=true:=by kernel_rfl
theorem Yw4{s p:Int}{L:List UInt8}{a:Nat}(h400:L.length≤400)(ha:a+4≤L.length):X0 (.ofNat 3) (.ofNat 27) L (.ofNat a) s p:=Zd9 Yph rfl rfl Y1r (by decide) (by decide) rfl Ye4 h400 ha
theorem Ykk:Zcq [32,115,98,32,115,104,32,115,119,32,115,100,32]=true:=by kernel_rfl
theorem Yyg{s p:Int}{L:List UInt8}{a:Nat}(h400:L.length≤400)(ha:a+4≤L.length):X0 (.ofNat 3) (.ofNat 28) L (.ofNat a) s p:=Zd9 Yhj rfl rfl Y3u (by decide) (by decide) rfl Ykk h400 ha
theorem Yuc{s p:Int}{L:List UInt8}{a:Nat}(h400:L.length≤400)(ha:a+4≤L.length):X0 (.ofNat 3) (.ofNat 30) L (.ofNat a) s p:=Zd9 Yko rfl rfl Y2f (by decide) (by decide) rfl Ye4 h400 ha
theorem Yxh{s p:Int}{L:List UInt8}{a:Nat}(h400:L.length≤400)(ha:a+4≤L.length):X0 (.ofNat 3) (.ofNat 31) L (.ofNat a) s p:=Zd9 Ynf rfl rfl Y3n (by decide) (by decide) rfl Ykk h400 ha
theorem Yv5{s p:Int}{L:List UInt8}{a:Nat}(h400:L.length≤400)(ha:a+4≤L.length):X0 (.ofNat 3) (.ofNat 24) L (.ofNat a) s p:=Zd9 Yir rfl rfl Y07 (by decide) (by decide) rfl Ye4 h400 ha
theorem Yuo{s p:Int}{L:List UInt8}{a:Nat}(h400:L.length≤400)(ha:a+4≤L.length):X0 (.ofNat 3) (.ofNat 25) L (.ofNat a) s p:=Zd9 Ylr rfl rfl Y1u (by decide) (by decide) rfl Ykk h400 ha
theorem Yw2(t ty a s p:Int){L:List UInt8}(h400:L.length≤400):X0 t ty L a s p:=by
 rcases Yac t ty a s p (show L.length<1000000 by omega) with⟨x,hx,h⟩|⟨t',k,sz,b,ht,hm,rfl,rfl,rfl,hb⟩
 ·exact Z8z h400 hx h
 rcases ht with rfl|rfl|rfl
 ·simp only[V7,List.mem_cons,Prod.mk.injEq,List.not_mem_nil,or_false] at hm
  rcases hm with⟨rfl,rfl⟩|⟨rfl,rfl⟩|⟨rfl,rfl⟩|⟨rfl,rfl⟩|⟨rfl,rfl⟩|⟨rfl,rfl⟩|⟨rfl,rfl⟩
  ·exact Y2i h400 hb
  ·exact Y4x h400 hb
  ·exact Y0t h400 hb
  ·exact Yvn h400 hb
  ·exact Yx0 h400 hb
  ·exact Yx5 h400 hb
  ·exact Yyb h400 hb
 ·simp only[V7,List.mem_cons,Prod.mk.injEq,List.not_mem_nil,or_false] at hm
  rcases hm with⟨rfl,rfl⟩|⟨rfl,rfl⟩|⟨rfl,rfl⟩|⟨rfl,rfl⟩|⟨rfl,rfl⟩|⟨rfl,rfl⟩|⟨rfl,rfl⟩|⟨rfl,rfl⟩|⟨rfl,rfl⟩|⟨rfl,rfl⟩|⟨rfl,rfl⟩|⟨rfl,rfl⟩|⟨rfl,rfl⟩|⟨rfl,rfl⟩|⟨rfl,rfl⟩
  ·exact Yp7 h400 hb
  ·exact Ysa h400 hb
  ·exact Ynm h400 hb
  ·exact Ygk h400 hb
  ·exact Ymi h400 hb
  ·exact Yi9 h400 hb
  ·exact Ynt h400 hb
  ·exact Yla h400 hb
  ·exact Yrm h400 hb
  ·exact Yki h400 hb
  ·exact Ygt h400 hb
  ·exact Yi3 h400 hb
  ·exact Yp4 h400 hb
  ·exact Ylh h400 hb
  ·exact Yo4 h400 hb
 ·simp only[V7,List.mem_cons,Prod.mk.injEq,List.not_mem_nil,or_false] at hm
  rcases hm with⟨rfl,rfl⟩|⟨rfl,rfl⟩|⟨rfl,rfl⟩|⟨rfl,rfl⟩|⟨rfl,rfl⟩|⟨rfl,rfl⟩|⟨rfl,rfl⟩|⟨rfl,rfl⟩|⟨rfl,rfl⟩|⟨rfl,rfl⟩|⟨rfl,rfl⟩|⟨rfl,rfl⟩|⟨rfl,rfl⟩|⟨rfl,rfl⟩|⟨rfl,rfl⟩|⟨rfl,rfl⟩
  ·exact Y49 h400 hb
  ·exact Y06 h400 hb
  ·exact Yu9 h400 hb
  ·exact Yv7 h400 hb
  ·exact Yu8 h400 hb
  ·exact Yvv h400 hb
  ·exact Yuh h400 hb
  ·exact Ywc h400 hb
  ·exact Yvl h400 hb
  ·exact Ywy h400 hb
  ·exact Yw4 h400 hb
  ·exact Yyg h400 hb
  ·exact Yuc h400 hb
  ·exact Yxh h400 hb
  ·exact Yv5 h400 hb
  ·exact Yuo h400 hb
end
end Go.Proofs.YtaakhjmfojoodaaGreatDoor
namespace Go.Proofs.YtaakhjmfojoodaaGreatDoor
open Go Go.Vai
noncomputable section
set_option maxRecDepth 100000
def ENl:Env:=Q0 Tryz.prog 12 [15,4] (Z9 (Zm1 4 true) (Vy kinds))
theorem Yoc(w:World)(hw:Z4 gl w):EnvOk ENl Tryz.prog (Kept gl w):=Xv (by kernel_rfl) ((Zi0 Zgx).or (Xx V4)) Xw (fun _ _ _ h=>h.1) (Zz hw).ext
def Y4m(a:Int)(sz:Nat):Option AV:=bc (Z2 a (.ofNat 0)) (some (.bool true)) (bc (Z2 (.ofNat 0) a) (some (.bool true)) (bc (Z2 (Za .i64 (Int.sub (.ofNat 0) a)) (.ofNat sz)) (some (.bool true)) none))
def Zzm(a ty:Int):List (Nat×Nat)→Option AV:=List.rec (motive:=fun _=>Option AV) (some (.bool true)) fun x _ ih=>bc (Zd (.ofNat x.1) ty) (Y4m a x.2) ih
theorem Z9z(a:Int){sz:Nat}(h:0<sz):Y4m a sz=some (.bool true):=by
 cases a with
 |negSucc b=>exact Zb rfl rfl
 |ofNat b=>
  rcases Nat.eq_zero_or_pos b with rfl|hb
  ·exact Zg rfl (Zg rfl (Zb (Zxx (n:=0) (a:=0) (k:=sz) (by omega) (Nat.le_refl _) (by decide)) rfl))
  ·exact Zg rfl (Zb (Vq hb) rfl)
theorem Zad(a ty:Int):∀{l:List (Nat×Nat)},(∀ x∈l,0<x.2)→Zzm a ty l=some (.bool true)
 |[],_=>rfl
 |x::l,h=>by
  show bc (Zd (.ofNat x.1) ty) (Y4m a x.2) (Zzm a ty l)=_
  rw[Z9z a (h x List.mem_cons_self),Zad a ty fun y hy=>h y (List.mem_cons_of_mem _ hy)]
  cases Zd (.ofNat x.1) ty <;> rfl
def Zq7(t ty:Int)(b:AV)(a s p:Int)(o:Ql):Option AV:=W2 ENl (smC ENl) Qe 100000 (.call 3 [.int .i64 t,.int .i64 ty,b,.int .i64 a,.int .u64 s,.int .u64 p] (Xm 12 [])) o jK
def ELo:Env:=Q0 Tryz.prog 12 [5,4] (Z9 (Zm1 4 true) (Vy kinds))
theorem Y3i(w:World)(hw:Z4 gl w):EnvOk ELo Tryz.prog (Kept gl w):=Xv (by kernel_rfl) ((Zi0 Zgx).or (Xx V4)) Xw (fun _ _ _ h=>h.1) (Zz hw).ext
theorem Yxa(t ty a s p:Int)(c n:Nat)(T:Tr AV)(h:400<n):W2 ELo (smC ELo) Qe 100000 (.call 3 [.int .i64 t,.int .i64 ty,.sl 12 0 n (some c),.int .i64 a,.int .u64 s,.int .u64 p] (Xm 12 [.cells n T 0 none 0 true false])) [] jK=some (.bool true):=
 (show _=bc (Nat.blt 400 n) (some (.bool true)) none by kernel_rfl).trans (Zb (Vq h) rfl)
theorem Yym(ty a s p:Int):Zq7 (.ofNat 1) ty .nils a s p []=Zzm a ty (V7 1):=by kernel_rfl
theorem Yyp(ty a s p:Int):Zq7 (.ofNat 2) ty .nils a s p []=Zzm a ty (V7 2):=by kernel_rfl
theorem Yui(ty a s p:Int):Zq7 (.ofNat 3) ty .nils a s p []=Zzm a ty (V7 3):=by kernel_rfl
theorem Yxw(t ty a s p:Int):Zq7 t ty .nils a s p [false,false,false,false,false]=bc (Zd t (.ofNat 1)) none (bc (Zd t (.ofNat 2)) none (bc (Zd t (.ofNat 3)) none (some (.bool true)))):=by kernel_rfl
theorem Yxu(t ty a s p:Int):∃ o,Zq7 t ty .nils a s p o=some (.bool true):=by
 have z:∀{t:Nat},t<4→∀ x∈V7 t,0<x.2:=by
  intro t ht x hx
  have e:∀ t,t<4→(V7 t).all (fun x=>Nat.blt 0 x.2)=true:=by decide
  have:=List.all_eq_true.1 (e t ht) x hx
  rwa [Nat.blt_eq] at this
 by_cases h1:t=.ofNat 1
 ·subst h1;exact⟨[],(Yym ..).trans (Zad a ty (z (by decide)))⟩
 by_cases h2:t=.ofNat 2
 ·subst h2;exact⟨[],(Yyp ..).trans (Zad a ty (z (by decide)))⟩
 by_cases h3:t=.ofNat 3
 ·subst h3;exact⟨[],(Yui ..).trans (Zad a ty (z (by decide)))⟩
 have g:∀{x y:Int},x≠y→Zd x y=false:=fun h=>by rw[Ya];exact decide_eq_false h
 exact⟨[false,false,false,false,false],(Yxw ..).trans (Zg (g h1) (Zg (g h2) (Zg (g h3) rfl)))⟩
theorem Ys6(ty a s p:Int):Zq7 (.ofNat 1) ty .sl0 a s p []=Zzm a ty (V7 1):=by kernel_rfl
theorem Ytz(ty a s p:Int):Zq7 (.ofNat 2) ty .sl0 a s p []=Zzm a ty (V7 2):=by kernel_rfl
theorem Yuf(ty a s p:Int):Zq7 (.ofNat 3) ty .sl0 a s p []=Zzm a ty (V7 3):=by kernel_rfl
theorem Yvt(t ty a s p:Int):Zq7 t ty .sl0 a s p [false,false,false,false,false]=bc (Zd t (.ofNat 1)) none (bc (Zd t (.ofNat 2)) none (bc (Zd t (.ofNat 3)) none (some (.bool true)))):=by kernel_rfl
theorem Yy1(t ty a s p:Int):∃ o,Zq7 t ty .sl0 a s p o=some (.bool true):=by
 have z:∀{t:Nat},t<4→∀ x∈V7 t,0<x.2:=by
  intro t ht x hx
  have e:∀ t,t<4→(V7 t).all (fun x=>Nat.blt 0 x.2)=true:=by decide
  have:=List.all_eq_true.1 (e t ht) x hx
  rwa [Nat.blt_eq] at this
 by_cases h1:t=.ofNat 1
 ·subst h1;exact⟨[],(Ys6 ..).trans (Zad a ty (z (by decide)))⟩
 by_cases h2:t=.ofNat 2
 ·subst h2;exact⟨[],(Ytz ..).trans (Zad a ty (z (by decide)))⟩
 by_cases h3:t=.ofNat 3
 ·subst h3;exact⟨[],(Yuf ..).trans (Zad a ty (z (by decide)))⟩
 have g:∀{x y:Int},x≠y→Zd x y=false:=fun h=>by rw[Ya];exact decide_eq_false h
 exact⟨[false,false,false,false,false],(Yvt ..).trans (Zg (g h1) (Zg (g h2) (Zg (g h3) rfl)))⟩
end
end Go.Proofs.YtaakhjmfojoodaaGreatDoor
