/- A body cut at a test that hangs on an argument: its front by the kernel, the test by a fact, its rest by the kernel.
What a tree tells at its leaves;rows of pieces of code,by trees and by triples.
Names for what trees bear: leaves,places,a step up or down.
Environments out of lists of summaries;what a closed call leaves behind,as a summary of that call in whatever memory.
A call that leaves nothing behind: run by itself,all that it finds frozen;what comes out is a plain value,whatever the order of the maps that it goes over.
An argument that is a slice of plain data: what its row holds,as an object that may be read.
A law's start from arguments that are slices of plain data.
Calls from plain values to plain values as summaries;an argument's whole row.
What trees over values come to: their leaves' parts.
strings.Contains at known strings,whatever internal/bytealg.MaxLen holds: by the shelf's contract.
Numbers in trees: small ones are themselves.
A call that reads one row that it is handed and answers a plain value: by a triple from known memory,in whatever memory.
A call that reads four bytes of a row that it is handed and answers a plain value,as a summary.
Trees whose branches are named ahead,with summaries that may name branches too: a text that a call answers can be pinned to one that is named ahead.
Numbers of trees as Lean's own: wrapping as remainders,shifts as products and quotients,masks as remainders,bits that do not meet as sums. -/
import Derived.Test.YtaakhjmfojoodaaGreatDoorVaiG
import Derived.Shelf.Strings.Search3
import Derived.Shelf.Vars
section
namespace Go.Vai
noncomputable section
def flat:Code→List Code
 |.seq a b=>flat a++flat b
 |c=>[c]
def Zhy(E:Env)(ih:Task→Option TRes):List Code→AFr→AHeap→Option TRes
 |[],fr,H=>some (.code .normal fr H)
 |c::cs,fr,H=>match Y3 E ih c fr H with
  |some (.code .normal fr H)=>Zhy E ih cs fr H
  |r=>r
section
variable {E:Env} {ih:Task→Option TRes}
end
end
end Go.Vai
end
section
namespace Go.Vai
noncomputable section
structure Leaf where
 e:AExit
 n:Nat
 rd:Bool
 dn:Bool
 nx:Bool
 vs:List (Option AV)
 os:List (Option AObj)
def nilD:List ADf→Bool
 |[]=>true
 |_=>false
def Yy(ng:Nat)(S keep:List Nat):KC Leaf:=fun e fr H=>some ⟨e,fr.n,fr.rd,nilD fr.df,keep.all (fun i=>Nat.blt i H.next),S.map fun s=>(fr.t.get s).bind (rnV 0 keep),(keep.drop ng).map H.get⟩
def Y88:Code→Code
 |.block _ c=>c
 |.loop c=>c
 |c=>c
def Zxr:List Nat→Code→Code
 |[],c=>c
 |i::p,c=>Zxr p (Y88 ((flat c).getD i .skip))
def Zy2:List Nat→List AV→Tr AV
 |s::S,v::vs=>(Zy2 S vs).set s v
 |_,_=>.nil
def Yx(n:Nat)(S:List Nat)(vs:List AV):AFr:=⟨n,Zy2 S vs,[],false⟩
def Xm(ng:Nat)(os:List AObj):AHeap:=news { objs:=.nil,next:=ng} os
theorem Zke:∀{S:List Nat}{vs:List AV}{i:Nat}{y:AV},(Zy2 S vs).get i=some y→∃ j:Nat,S[j]?=some i∧vs[j]?=some y
 |[],_,i,y,h=>by simp[Zy2,Tr.get_nil] at h
 |_::_,[],i,y,h=>by simp[Zy2,Tr.get_nil] at h
 |s::S,v::vs,i,y,h=>by
  simp only[Zy2] at h
  rcases Tr.get_set h with⟨rfl,rfl⟩|⟨_,h⟩
  ·exact⟨0,rfl,rfl⟩
  ·obtain⟨j,a,b⟩:=Zke h
   exact⟨j+1,by simpa using a,by simpa using b⟩
theorem Zax{ng:Nat}{os:List AObj}{k:Nat}{u:AObj}(h:(Xm ng os).get k=some u):∃ j:Nat,k=ng+j∧os[j]?=some u:=by
 rcases Zct h with⟨j,e,hj⟩|⟨h,_⟩
 ·exact⟨j,e,hj⟩
 ·cases h
def Zlj(ng:Nat)(keep:List Nat):Bool:=(List.range ng).all (fun g=>keep[g]?==some g)&&decide keep.Nodup
theorem Zf7{ng n:Nat}{S keep:List Nat}{e e0:AExit}{fr:AFr}{H:AHeap}{vs:List AV}{os os2:List AObj}(h:Yy ng S keep e fr H=some ⟨e0,n,false,true,true,vs.map some,os.map some⟩)(hk:Zlj ng keep=true)(hl:os2.length=os.length)(hkl:keep.length=ng+os.length)
  (hr:∀(j:Nat) o o2,os[j]?=some o→os2[j]?=some o2→Zcr 0 keep o o2):e=e0∧Ren ng keep fr H (Yx n S vs) (Xm ng os2):=by
 simp only[Yy,Option.some.injEq,Leaf.mk.injEq] at h
 obtain⟨rfl,rfl,h2,h3,h4,h5,h6⟩:=h
 simp only[Zlj,Bool.and_eq_true,List.all_eq_true,List.mem_range,beq_iff_eq,decide_eq_true_eq] at hk
 refine⟨rfl,hk.1,fun i hi=>?_,hk.2,?_,fun k u hu=>?_,rfl,h2.symm,⟨?_,rfl⟩,fun i y hy=>?_⟩
 ·have:=List.all_eq_true.1 h4 i hi
  simpa using this
 ·show(news { objs:=.nil,next:=ng} os2).next=_
  rw[Zhb,hl,hkl]
 ·obtain⟨j,rfl,hj⟩:=Zax hu
  have hjl:j<os.length:=by rw[←hl];exact(List.getElem?_eq_some_iff.1 hj).1
  have hki:keep[ng+j]?=some (keep[ng+j]'(by omega)):=List.getElem?_eq_getElem _
  have h7:=congrArg (·[j]?) h6
  simp only[List.getElem?_map,List.getElem?_drop,hki,Option.map_some,List.getElem?_eq_getElem hjl,Option.some.injEq] at h7
  exact⟨_,_,hki,h7,hr j _ _ (List.getElem?_eq_getElem hjl) hj⟩
 ·cases hd:fr.df with
  |nil=>rfl
  |cons x l=>rw[hd] at h3;cases h3
 ·obtain⟨j,hs,hv⟩:=Zke hy
  have h7:=congrArg (·[j]?) h5
  simp only[List.getElem?_map,hs,hv,Option.map_some,Option.some.injEq] at h7
  cases hg:fr.t.get i with
  |none=>rw[hg] at h7;cases h7
  |some x=>rw[hg] at h7;exact⟨x,rfl,h7⟩
def Z6{α:Type}(E:Env)(cl:Cl α)(l:List Code):CK' α:=List.rec (motive:=fun _=>CK' α) (fun k=>k .normal) (fun c _ K k=>Kc E cl c (Z8a K k)) l
theorem Ziv{α:Type}{E:Env}{cl:Cl α}{ih:Task→Option TRes}(hc:Zhm cl ih):∀(l:List Code)(k:KC α)(fr:AFr)(H:AHeap)(r:α),Z6 E cl l k fr H=some r→∃ e fr' H',Zhy E ih l fr H=some (.code e fr' H')∧k e fr' H'=some r:=by
 intro l
 induction l with
 |nil=>intro k fr H r h;exact⟨_,_,_,rfl,h⟩
 |cons c l ihl=>
  intro k fr H r h
  have h':Kc E cl c (Z8a (Z6 E cl l) k) fr H=some r:=h
  obtain⟨e,fr1,H1,e1,e2⟩:=Qo hc c _ fr H r h'
  simp only[Zhy,e1]
  cases e with
  |normal=>exact ihl k fr1 H1 r e2
  |exit i=>exact⟨_,_,_,rfl,e2⟩
  |ret=>exact⟨_,_,_,rfl,e2⟩
  |panic v=>exact⟨_,_,_,rfl,e2⟩
section
variable {E:Env} {P:Program} {I:List MEnt→AHeap→World→Prop} {ih:Task→Option TRes} {ro:Option Nat}
def Xy(E:Env)(P:Program)(I:List MEnt→AHeap→World→Prop)(ro:Option Nat):List Code→AFr→AHeap→TQ→Prop
 |[],fr,H,Q=>∀ M w a,St E I M H w→FRel ro M fr a→Zyr E I ro Q .normal a w
 |c::cs,fr,H,Q=>Tri E P I ro c fr H fun e fr' H'=>(e=.normal∧Xy E P I ro cs fr' H' Q)∨(e≠.normal∧Q e fr' H')
theorem Xy.nil{fr:AFr}{H:AHeap}{Q:TQ}(h:Q .normal fr H):Xy E P I ro [] fr H Q:=fun M _ _ st hf=>⟨.normal,fr,H,M,h,st,rfl,hf⟩
theorem Xy.mono:∀{l:List Code}{fr:AFr}{H:AHeap}{Q Q':TQ},Xy E P I ro l fr H Q→(∀ e fr H,Q e fr H→Q' e fr H)→Xy E P I ro l fr H Q'
 |[],_,_,_,_,h,hq=>fun M w a st hf=>by
  obtain⟨e,fr1,H1,M1,q,r⟩:=h M w a st hf
  exact⟨e,fr1,H1,M1,hq _ _ _ q,r⟩
 |_::_,_,_,_,_,h,hq=>Tri.mono h fun e fr' H' q=>q.imp (fun⟨a,b⟩=>⟨a,Xy.mono b hq⟩) (fun⟨a,b⟩=>⟨a,hq _ _ _ b⟩)
theorem Xy.append:∀{l m:List Code}{fr:AFr}{H:AHeap}{Q:TQ},Xy E P I ro (l++m) fr H Q→Xy E P I ro l fr H fun e fr' H'=>(e=.normal∧Xy E P I ro m fr' H' Q)∨(e≠.normal∧Q e fr' H')
 |[],_,_,_,_,h=>Xy.nil (.inl ⟨rfl,h⟩)
 |_::_,_,_,_,_,h=>Tri.mono h fun e fr' H' q=>by
  rcases q with⟨a,b⟩|⟨a,b⟩
  ·exact .inl ⟨a,Xy.append b⟩
  ·exact .inr ⟨a,.inr ⟨a,b⟩⟩
theorem Jb:∀(c:Code){fr:AFr}{H:AHeap}{Q:TQ},Xy E P I ro (flat c) fr H Q→Tri E P I ro c fr H Q:=by
 have one:∀{c:Code}{fr:AFr}{H:AHeap}{Q:TQ},Xy E P I ro [c] fr H Q→Tri E P I ro c fr H Q:=by
  intro c fr H Q h M w a st hf
  refine wpIn_mono (h M w a st hf) ?_
  rintro ex a1 w1 ⟨e,fr1,H1,M1,q,s1,er,f1⟩
  rcases q with⟨rfl,q⟩|⟨_,q⟩
  ·simp only[Q4] at er;subst er
   exact q M1 w1 a1 s1 f1
  ·exact⟨e,fr1,H1,M1,q,s1,er,f1⟩
 intro c
 induction c with
 |seq a b iha ihb=>
  intro fr H Q h
  exact Tri.seq (iha ((Xy.append h).mono fun e fr' H' q=>q.imp (fun⟨x,y⟩=>⟨x,ihb y⟩) id))
 |_=>intro fr H Q h;exact one h
theorem Xy.ren(hI:Carried I){l:List Code}{keep:List Nat}{fr fr':AFr}{H H':AHeap}{Q:TQ}(r:Ren E.ng keep fr H fr' H')(h:Xy E P I ro l fr' H' Q):Xy E P I ro l fr H Q:=by
 cases l with
 |nil=>
  intro M w a st hf
  obtain⟨M',s2,f2⟩:=r.to hI st hf
  exact h M' w a s2 f2
 |cons c cs=>exact Tri.ren hI r h
theorem Xy.run(hE:EnvOk E P I)(hs:Sound E P I ih):∀{l m:List Code}{fr:AFr}{H:AHeap}{e:AExit}{fr':AFr}{H':AHeap}{Q:TQ},Zhy E ih l fr H=some (.code e fr' H')→((e=.normal∧Xy E P I ro m fr' H' Q)∨(e≠.normal∧Q e fr' H'))→Xy E P I ro (l++m) fr H Q
 |[],m,fr,H,e,fr',H',Q,h,hq=>by
  simp only[Zhy,Option.some.injEq,TRes.code.injEq] at h
  obtain⟨rfl,rfl,rfl⟩:=h
  rcases hq with⟨_,h⟩|⟨h,_⟩
  ·exact h
  ·exact absurd rfl h
 |c::l,m,fr,H,e,fr',H',Q,h,hq=>by
  simp only[Zhy] at h
  split at h
  ·rename_i fr1 H1 hc
   exact Tri.run hE hs hc (.inl ⟨rfl,Xy.run hE hs h hq⟩)
  ·rename_i hne
   have hen:e≠.normal:=fun he=>by subst he;exact hne _ _ h
   rcases hq with⟨h1,_⟩|⟨_,h1⟩
   ·exact absurd h1 hen
   ·exact Tri.run hE hs h (.inr ⟨hen,h1⟩)
end
theorem Qs{keep:List Nat}{n:Nat}{t:Tr AV}{e:TypeId}{g:Option Nat}{fz:Nat}{ro mk:Bool}(h:Qq t):Zcr 0 keep (.cells n t e g fz ro mk) (.cells n t e g fz ro mk):=⟨t,rfl,fun i y hy=>⟨y,hy,h i y hy 0 keep⟩⟩
end
end Go.Vai
end
section
namespace Go.Vai
noncomputable section
def lf(e:AExit)(n:Nat)(vs:List (Option AV))(os:List (Option AObj)):Option Leaf:=some ⟨e,n,false,true,true,vs,os⟩
def at1(k:Nat):Nat:=Nat.add 0 (Nat.mul k 1)
def pr(k:Nat):Int:=Za .i64 ((Int.ofNat k).sub (Int.ofNat 1))
def up(k:Nat):Int:=Za .i64 (Int.ofNat k.succ)
theorem Z0j{k:Nat}(h:k<2 ^ 62):Za .i64 (.ofNat k)=.ofNat k:=by
 have:inR .i64 (.ofNat k)=true:=by
  show Nat.blt k _=true
  rw[Nat.blt_eq]
  refine Nat.lt_of_lt_of_le h ?_
  decide
 unfold Za
 rw[this];rfl
theorem Y0c{k:Nat}(h:k<2 ^ 61):up k=.ofNat (k+1):=Z0j (by omega)
theorem Yzt{a b:Nat}(h:a<b):Nat.blt a b=true:=by rw[Nat.blt_eq];exact h
section
variable {E:Env} {P:Program} {I:List MEnt→AHeap→World→Prop} {ro:Option Nat}
theorem Xy.leafC(hE:EnvOk E P I){cl:Cl Leaf}{d:Nat}(hc:Zhm cl (Go.Vai.run E d)){l:List Code}{fr:AFr}{H:AHeap}{S keep:List Nat}{e:AExit}{n:Nat}{vs:List AV}{os os2:List AObj}{Q:TQ}
  (h:Z6 E cl l (Yy E.ng S keep) fr H=lf e n (vs.map some) (os.map some)) (hk:Zlj E.ng keep=true) (hl:os2.length=os.length) (hkl:keep.length=E.ng+os.length)
  (hr:∀(j:Nat) o o2,os[j]?=some o→os2[j]?=some o2→Zcr 0 keep o o2) (hm:∀ fr' H',Ren E.ng keep fr' H' (Yx n S vs) (Xm E.ng os2)→Q e fr' H'):Xy E P I ro l fr H Q:=by
 obtain⟨e1,fr',H',e2,e3⟩:=Ziv hc l _ fr H _ h
 obtain⟨rfl,ren⟩:=Zf7 e3 hk hl hkl hr
 have:=Xy.run (m:=[]) hE (Zb9 hE _) (ro:=ro) (Q:=Q) e2 (by
  cases e1 with
  |normal=>exact .inl ⟨rfl,Xy.nil (hm _ _ ren)⟩
  |_=>exact .inr ⟨(by intro h;cases h),hm _ _ ren⟩)
 rwa [List.append_nil] at this
theorem Xy.leafXC(hE:EnvOk E P I)(hI:Carried I){cl:Cl Leaf}{d:Nat}(hc:Zhm cl (Go.Vai.run E d)){l m:List Code}{fr:AFr}{H:AHeap}{S keep:List Nat}{e:AExit}{n:Nat}{vs:List AV}{os os2:List AObj}{Q:TQ}
  (h:Z6 E cl l (Yy E.ng S keep) fr H=lf e n (vs.map some) (os.map some)) (hk:Zlj E.ng keep=true) (hl:os2.length=os.length) (hkl:keep.length=E.ng+os.length)
  (hr:∀(j:Nat) o o2,os[j]?=some o→os2[j]?=some o2→Zcr 0 keep o o2)
  (hm:(e=.normal∧Xy E P I ro m (Yx n S vs) (Xm E.ng os2) Q)∨(e≠.normal∧∀ fr' H',Ren E.ng keep fr' H' (Yx n S vs) (Xm E.ng os2)→Q e fr' H')):Xy E P I ro (l++m) fr H Q:=by
 obtain⟨e1,fr',H',e2,e3⟩:=Ziv hc l _ fr H _ h
 obtain⟨rfl,ren⟩:=Zf7 e3 hk hl hkl hr
 refine Xy.run hE (Zb9 hE _) e2 ?_
 rcases hm with⟨rfl,hm⟩|⟨hne,hm⟩
 ·exact .inl ⟨rfl,Xy.ren hI ren hm⟩
 ·exact .inr ⟨hne,hm _ _ ren⟩
theorem Tri.leafC(hE:EnvOk E P I){cl:Cl Leaf}{d:Nat}(hc:Zhm cl (Go.Vai.run E d)){c:Code}{fr:AFr}{H:AHeap}{S keep:List Nat}{e:AExit}{n:Nat}{vs:List AV}{os os2:List AObj}{Q:TQ}
  (h:Kc E cl c (Yy E.ng S keep) fr H=lf e n (vs.map some) (os.map some)) (hk:Zlj E.ng keep=true) (hl:os2.length=os.length) (hkl:keep.length=E.ng+os.length)
  (hr:∀(j:Nat) o o2,os[j]?=some o→os2[j]?=some o2→Zcr 0 keep o o2) (hm:∀ fr' H',Ren E.ng keep fr' H' (Yx n S vs) (Xm E.ng os2)→Q e fr' H'):Tri E P I ro c fr H Q:=by
 obtain⟨e1,fr',H',e2,e3⟩:=Qo hc c _ fr H _ h
 obtain⟨rfl,ren⟩:=Zf7 e3 hk hl hkl hr
 exact Tri.run hE (Zb9 hE _) e2 (hm _ _ ren)
theorem Xy.leafX(hE:EnvOk E P I)(hI:Carried I){d:Nat}{l m:List Code}{fr:AFr}{H:AHeap}{S keep:List Nat}{e:AExit}{n:Nat}{vs:List AV}{os os2:List AObj}{Q:TQ}
  (h:Z6 E (Yu E d) l (Yy E.ng S keep) fr H=lf e n (vs.map some) (os.map some)) (hk:Zlj E.ng keep=true) (hl:os2.length=os.length) (hkl:keep.length=E.ng+os.length)
  (hr:∀(j:Nat) o o2,os[j]?=some o→os2[j]?=some o2→Zcr 0 keep o o2)
  (hm:(e=.normal∧Xy E P I ro m (Yx n S vs) (Xm E.ng os2) Q)∨(e≠.normal∧∀ fr' H',Ren E.ng keep fr' H' (Yx n S vs) (Xm E.ng os2)→Q e fr' H')):Xy E P I ro (l++m) fr H Q:=Xy.leafXC hE hI (Vd E d) h hk hl hkl hr hm
end
def BT(T:Tr AV):Prop:=∀ i v,T.get i=some v→∃ b,v=.bool b
theorem BT.plain{T:Tr AV}(h:BT T):Qq T:=fun i v hv=>by
 obtain⟨b,rfl⟩:=h i v hv
 intro _ _;rfl
def Yiv(N:Nat)(T:Tr AV)(F:Nat→Bool):Prop:=BT T∧∀ k,k<N→T.get k=some (.bool (F k))
theorem Yiv.put{N:Nat}{T:Tr AV}{F G:Nat→Bool}{k:Nat}{b:Bool}(h:Yiv N T F)(hN:N≤1000000)(hk:k<N)(hb:b=G k)(hG:∀ j,j<N→j≠k→F j=G j):Yiv N (T.putAll k [.bool b]) G:=by
 have e:T.putAll k [.bool b]=T.set k (.bool b):=by rw[Tr.putAll_cons,Tr.putAll_nil]
 rw[e]
 refine⟨fun i v hv=>?_,fun j hj=>?_⟩
 ·rcases Tr.get_set hv with⟨_,rfl⟩|⟨_,h2⟩
  ·exact⟨b,rfl⟩
  ·exact h.1 i v h2
 ·rw[Tr.get_set_eq T j _ (by omega)]
  split
  ·rename_i e;subst e;rw[hb]
  ·rename_i e;rw[h.2 j hj,hG j hj e]
theorem Tr.get_putAll_eq:∀(vs:List AV)(t:Tr AV)(k j:Nat),k+vs.length≤1000000→(t.putAll k vs).get j=if k≤j∧j<k+vs.length then vs[j - k]? else t.get j
 |[],t,k,j,_=>by
  rw[Tr.putAll_nil,if_neg]
  simp only[List.length_nil];omega
 |v::vs,t,k,j,h=>by
  rw[Tr.putAll_cons,Tr.get_putAll_eq vs _ _ _ (by simp at h;omega),Tr.get_set_eq _ _ _ (by simp at h;omega)]
  by_cases e:j=k
  ·subst e
   rw[if_neg (by omega),if_pos rfl,if_pos (by simp)]
   simp
  ·by_cases e2:k+1≤j∧j<k+1+vs.length
   ·rw[if_pos e2,if_pos (by simp;omega)]
    rw[show j - k=(j - (k+1))+1 by omega]
    simp
   ·rw[if_neg e2,if_neg e,if_neg (by simp;omega)]
end
end Go.Vai
end
section
namespace Go.Vai
noncomputable section
abbrev Sm:=Nat→List AV→AHeap→Option (AV×AHeap)
def Zr(P:Program)(gl:List (Nat×List AV))(sm:Sm):Prop:=∀ f args H v H' M w cargs,sm f args H=some (v,H')→Z4 gl w→HRel M H w→Zp M args cargs→Jp P f cargs M H w (.ret v H')
def Z9(a b:Sm):Sm:=fun f args H=>Option.rec (motive:=fun _=>Option (AV×AHeap)) (b f args H) (fun r=>some r) (a f args H)
def Vy(kinds:List (Nat×Nat×Nat)):Sm:=fun f args H=>match Zub kinds f with
 |some (k,e)=>Yxp k e args H
 |none=>none
section
variable {P:Program} {gl:List (Nat×List AV)}
theorem Zr.or{a b:Sm}(ha:Zr P gl a)(hb:Zr P gl b):Zr P gl (Z9 a b):=by
 intro f args H v H' M w cargs h hw hr hv
 unfold Z9 at h
 cases e:a f args H with
 |none=>rw[e] at h;exact hb f args H v H' M w cargs h hw hr hv
 |some r=>
  rw[e] at h
  simp only[Option.some.injEq] at h
  subst h
  exact ha f args H v H' M w cargs e hw hr hv
theorem Xx{kinds:List (Nat×Nat×Nat)}(hK:Ylu P kinds=true):Zr P gl (Vy kinds):=by
 intro f args H v H' M w cargs h _ hr ha
 unfold Vy at h
 split at h
 ·rename_i k e hk
  exact Z9x hK hk h hr ha
 ·cases h
theorem Xv{ng:Nat}{skip:List Nat}{sm:Sm}{I:List MEnt→AHeap→World→Prop}(hN:Zjy skip P.funcs.toList 0=true)(hS:Zr P gl sm)(hM:P.follows .mixedOrders=true)
  (hX:∀ M H w,I M H w→Z4 gl w) (hI:∀ M H w M' H' w',I M H w→Ext M H w M' H' w'→I M' H' w'):EnvOk (Q0 P ng skip sm) P I where
 tys:=Ymx P ng skip _
 fns:=Ynv hN
 carry:=hI
 mixed:=hM
 sm:=fun f args H v H' M w cargs _ h st ha=>hS f args H v H' M w cargs h (hX _ _ _ st.i) st.hr ha
end
structure Obj1 where
 n:Nat
 e:Nat
 g:Option Nat
 fz:Nat
 ro:Bool
 mr:Bool
 vs:List (Option AV)
def Zqy(t:Tr AV)(k n:Nat):List (Option AV):=Nat.rec (motive:=fun _=>Nat→List (Option AV)) (fun _=>[]) (fun _ ih k=>t.get k::ih (Nat.succ k)) n k
def Yf2:Option AObj→Option Obj1
 |some (.cells n t e g fz ro mk)=>some ⟨n,e,g,fz,ro,mk,Zqy t 0 n⟩
 |_=>none
def pack(keep:List Nat):Option TRes→Option (AV×List (Option Obj1))
 |some (.call (.ret v H))=>some (v,keep.map fun i=>Yf2 (H.get i))
 |_=>none
def Zyg(b:Nat)(keep:List Nat):List (Option AV)→Nat→Tr AV
 |[],_=>.nil
 |x::r,k=>match x.bind (rnV b keep) with
  |some y=>(Zyg b keep r (k+1)).set k y
  |none=>Zyg b keep r (k+1)
def mkO(b:Nat)(keep:List Nat)(x:Obj1):AObj:=.cells x.n (Zyg b keep x.vs 0) x.e x.g x.fz x.ro x.mr
theorem Z7h:∀(n:Nat)(t:Tr AV)(k j:Nat)(x:AV),(Zqy t k n)[j]?=some (some x)→t.get (k+j)=some x
 |0,t,k,j,x,h=>by
  have h':([]:List (Option AV))[j]?=some (some x):=h
  simp at h'
 |n+1,t,k,0,x,h=>by
  have h':(t.get k::Zqy t (k+1) n)[0]?=some (some x):=h
  simpa using h'
 |n+1,t,k,j+1,x,h=>by
  have h':(t.get k::Zqy t (k+1) n)[j+1]?=some (some x):=h
  have:=Z7h n t (k+1) j x (by simpa using h')
  rwa [show k+(j+1)=k+1+j by omega]
theorem Zzv{b:Nat}{keep:List Nat}:∀(vs:List (Option AV))(k i:Nat)(y:AV),(Zyg b keep vs k).get i=some y→∃ j x,i=k+j∧vs[j]?=some (some x)∧rnV b keep x=some y
 |[],k,i,y,h=>by simp[Zyg,Tr.get_nil] at h
 |x::r,k,i,y,h=>by
  have tail:(Zyg b keep r (k+1)).get i=some y→∃ j z,i=k+j∧(x::r)[j]?=some (some z)∧rnV b keep z=some y:=fun h=>by
   obtain⟨j,z,e,h1,h2⟩:=Zzv r (k+1) i y h
   exact⟨j+1,z,by omega,by simpa using h1,h2⟩
  simp only[Zyg] at h
  split at h
  ·rename_i z hz
   rcases Tr.get_set h with⟨rfl,rfl⟩|⟨_,h⟩
   ·obtain⟨a,rfl,ha⟩:=Option.bind_eq_some_iff.1 hz
    exact⟨0,a,rfl,rfl,ha⟩
   ·exact tail h
  ·exact tail h
theorem Z07{b:Nat}{keep:List Nat}{o:AObj}{x:Obj1}(h:Yf2 (some o)=some x):Zcr b keep o (mkO b keep x)∧o.isRo=x.ro:=by
 unfold Yf2 at h
 split at h
 ·rename_i n t e g fz ro mk he
  cases he
  simp only[Option.some.injEq] at h
  subst h
  refine⟨⟨Zyg b keep (Zqy t 0 n) 0,rfl,fun i y hy=>?_⟩,rfl⟩
  obtain⟨j,z,rfl,h1,h2⟩:=Zzv _ _ _ _ hy
  exact⟨z,Z7h n t 0 j z h1,h2⟩
 ·cases h
structure Done where
 f:Nat
 args:List AV
 keep:List Nat
 v:AV
 os:List Obj1
def Zgs:AV→AV→Bool
 |.str a,.str b=>leq a b
 |.int j a,.int k b=>sameKind j k&&Zd a b
 |.bool a,.bool b=>a==b
 |_,_=>false
theorem Zms{x y:AV}(h:Zgs x y=true):x=y:=by
 unfold Zgs at h
 split at h
 ·rw[Q6] at h;simp at h;rw[h]
 ·rw[Bool.and_eq_true,W6,Ya] at h;simp at h;rw[h.1,h.2]
 ·simp at h;rw[h]
 ·cases h
def Jk:List AV→List AV→Bool
 |[],[]=>true
 |a::asz,b::bs=>Zgs a b&&Jk asz bs
 |_,_=>false
theorem Zby:∀{l m:List AV},Jk l m=true→l=m
 |[],[],_=>rfl
 |[],_::_,h=>by simp[Jk] at h
 |_::_,[],h=>by simp[Jk] at h
 |a::asz,b::bs,h=>by
  simp only[Jk,Bool.and_eq_true] at h
  rw[Zms h.1,Zby h.2]
def J2(c:Done):Sm:=fun f args H=>bif Nat.beq f c.f&&Jk c.args args then(match rnV H.next c.keep c.v with
 |some u=>some (u,news H (c.os.map (mkO H.next c.keep)))
 |none=>none) else none
section
variable {P:Program} {gl:List (Nat×List AV)}
theorem Zbk{E:Env}{f:FuncId}{args:List AV}{cargs:List Value}{n:Nat}{v:AV}{H1:AHeap}(hE:∀ w,Z4 gl w→EnvOk E P (Kept gl w))(hgl:(gl.all fun x=>Nat.blt x.1 E.ng)=true)(hf:(E.fn f).isSome=true)
  (ha:Zp (V9 E.ng 0) args cargs) (h:run E n (.call f args (Yc E.ng gl))=some (.call (.ret v H1))):Zgh P gl f cargs fun x H=>x=v∧H=H1:=by
 intro w hw
 obtain⟨fn,hfn⟩:=Option.isSome_iff_exists.1 hf
 have hr:HRel (V9 E.ng 0) (Yc E.ng gl) w:=Zsj (Wo _ _) fun g av hm=>by
  have hg:g<E.ng:=by
   have:=List.all_eq_true.1 hgl _ hm
   simpa using this
  exact⟨hg,by rw[Zmg _ 0 g hg];simp,hw g av hm⟩
 have kp:Kept gl w (V9 E.ng 0) (Yc E.ng gl) w:=⟨hw,Keeps.refl w,fun b _ ⟨id,o,m,e,r,_⟩=>by rw[Zfi _ _ id o e] at r;cases r⟩
 have:=J0 (hE w hw) hfn (Zgo (hE w hw) h ⟨hr,Zdp E,kp⟩ ha)
 refine⟨this.1,CallsIn.mono this.2 ?_⟩
 intro e w' hp
 cases e with
 |outgrown=>exact hp.elim
 |panicked ch=>obtain⟨_,_,_,_,e,_⟩:=hp;cases e
 |returned cv=>
  obtain⟨v2,H2,M',e,x1,x2,x3⟩:=hp
  cases e
  exact⟨cv,v,H1,M',rfl,x2,(Zz hw).ext _ _ _ _ _ _ kp x1,x3,rfl,rfl⟩
theorem Zp.anyPlain{args:List AV}(h:∀ v∈args,Plain v){M:List MEnt}{cargs:List Value}(ha:Zp M args cargs)(M':List MEnt):Zp M' args cargs:=by
 have hr:∀(l:List AV),(∀ v∈l,Plain v)→Zds 0 [] l=some l:=by
  intro l
  induction l with
  |nil=>intro _;rfl
  |cons a l ih=>intro h;simp only[Zds,h a List.mem_cons_self 0 [],ih fun v hv=>h v (List.mem_cons_of_mem _ hv)]
 exact Zeb (b:=0) (keep:=[]) (fun k i hk=>by simp at hk) args args cargs (hr args h) ha
theorem Zkt{E:Env}{c:Done}{n:Nat}(hE:∀ w,Z4 gl w→EnvOk E P (Kept gl w))(hgl:(gl.all fun x=>Nat.blt x.1 E.ng)=true)(hf:(E.fn c.f).isSome=true)
  (hp:∀ v∈c.args,Plain v) (h:pack c.keep (run E n (.call c.f c.args (Yc E.ng gl)))=some (c.v,c.os.map some)) (hk:c.keep.Nodup) (hro:(c.os.all fun o=>!o.ro)=true):Zr P gl (J2 c):=by
 intro f args H v H' M w cargs hs hw hr ha
 unfold J2 at hs
 cases hb:Nat.beq f c.f&&Jk c.args args with
 |false=>rw[hb] at hs;cases hs
 |true=>
  rw[hb] at hs
  simp only[cond_true] at hs
  rw[Bool.and_eq_true,Nat.beq_eq] at hb
  obtain⟨rfl,hb⟩:=hb
  have:=Zby hb
  subst this
  split at hs
  case h_2=>cases hs
  rename_i u hu
  simp only[Option.some.injEq,Prod.mk.injEq] at hs
  obtain⟨rfl,rfl⟩:=hs
  unfold pack at h
  split at h
  case h_2=>cases h
  rename_i v1 H1 hrun
  simp only[Option.some.injEq,Prod.mk.injEq] at h
  obtain⟨rfl,h2⟩:=h
  refine Zgh.calls (Zbk hE hgl hf (Zp.anyPlain hp ha _) hrun) hw hr ?_
  rintro v2 H2 ⟨rfl,rfl⟩
  have hl:c.os.length=c.keep.length:=by have:=congrArg List.length h2;simpa using this.symm
  refine⟨c.keep,hk,by simpa using hl,hu,fun j x hx=>?_⟩
  rw[List.getElem?_map] at hx
  obtain⟨o,ho,rfl⟩:=Option.map_eq_some_iff.1 hx
  have hj:j<c.os.length:=(List.getElem?_eq_some_iff.1 ho).1
  have h3:=congrArg (·[j]?) h2
  simp only[List.getElem?_map,ho,Option.map_some] at h3
  obtain⟨i,hi,h4⟩:=Option.map_eq_some_iff.1 h3
  cases hg:H2.get i with
  |none=>rw[hg] at h4;cases h4
  |some p=>
   rw[hg] at h4
   obtain⟨r1,r2⟩:=Z07 (b:=H.next) (keep:=c.keep) h4
   refine⟨i,p,hi,hg,r1,?_⟩
   rw[r2]
   have:=List.all_eq_true.1 hro o (List.mem_of_getElem? ho)
   simpa using this
theorem Q2(k:IntKind)(n:Int):Plain (.int k n):=fun _ _=>rfl
end
def Zm1(f:Nat)(b:Bool):Sm:=fun g args H=>match args with
 |[]=>bif Nat.beq g f then some (.bool b,H) else none
 |_=>none
theorem Zi0{P:Program}{gl:List (Nat×List AV)}{f:Nat}{b:Bool}(h:∀ w,Z4 gl w→(callFunc f #[]).run P w=.ok (.enter f #[]) w∧Calls P f #[] w fun e w'=>e=.returned (.bool b)∧Keeps w w'):Zr P gl (Zm1 f b):=by
 intro g args H v H' M w cargs hs hw hr ha
 unfold Zm1 at hs
 split at hs
 case h_2=>cases hs
 cases hb:Nat.beq g f with
 |false=>rw[hb] at hs;cases hs
 |true=>
  rw[hb] at hs
  simp only[cond_true,Option.some.injEq,Prod.mk.injEq] at hs
  obtain⟨rfl,rfl⟩:=hs
  rw[Nat.beq_eq] at hb
  subst hb
  match cargs,ha with
  |[],_=>
   obtain⟨h1,h2⟩:=h w hw
   refine .inr ⟨h1,callsIn_wide.2 (h2.mono fun e w' ⟨he,hk⟩=>?_)⟩
   subst he
   obtain⟨x1,x2⟩:=hk.ext hr
   exact⟨_,_,M,rfl,x1,x2,rfl⟩
def Yy6{α:Type}(a b:Smk α)(c:FuncId→Bool):Smk α:=fun f args H k=>bc (c f) (a f args H k) (b f args H k)
theorem Qp.or{α:Type}{E:Env}{a b:Smk α}{c:FuncId→Bool}(ha:∀ f args H k r,c f=true→a f args H k=some r→∃ v H',E.sm f args H=some (v,H')∧k v H'=some r)(hb:Qp E b):Qp E (Yy6 a b c):=by
 intro f args H k r h
 unfold Yy6 at h
 cases hc:c f with
 |true=>rw[hc] at h;exact ha f args H k r hc h
 |false=>rw[hc] at h;exact hb f args H k r h
end
end Go.Vai
end
section
namespace Go.Vai
noncomputable section
section
variable {P:Program} {M:List MEnt} {H:AHeap} {w:World} {gl:List (Nat×List AV)}
def jK:TRes→Ql→Option AV
 |.call (.ret v _),_=>rnV 0 [] v
 |_,_=>none
end
end
end Go.Vai
end
section
namespace Go.Vai
open Go.RowKit
section
variable {H:Type} {enc:TypeId×Value→H} {P:Program} {w:World} {base:Nat} {spare:Nat→Bool} {held:Bool}
def Znt(ks:List CK)(n:Nat)(vs:List AV):Prop:=vs.length=n*ks.length∧∀ i,i<n→Kh ks ((vs.drop (i*ks.length)).take ks.length)
theorem chunks{ks:List CK}{q:Nat}(hq:ks.length=q)(cur:List Value)(off:Nat):∀(n:Nat),(∀ i,i<n→∃ asz,Kh ks asz∧Zp [] asz ((cur.drop (off+i*q)).take q)∧asz.length=q)→off+n*q≤cur.length →
  ∃ vs,Znt ks n vs∧Zp [] vs ((cur.drop off).take (n*q))
 |0,_,_=>⟨[],⟨by simp,fun i h=>by omega⟩,by simp[Zp]⟩
 |n+1,h,hl=>by
  have e1:(n+1)*q=n*q+q:=Nat.succ_mul n q
  obtain⟨vs,h1,h2⟩:=chunks hq cur off n (fun i hi=>h i (by omega)) (by omega)
  obtain⟨asz,a1,a2,a3⟩:=h n (by omega)
  refine⟨vs++asz,⟨by rw[List.length_append,h1.1,a3,hq,e1],fun i hi=>?_⟩,?_⟩
  ·by_cases e:i<n
   ·have:i*q+q≤n*q:=by rw[←Nat.succ_mul];exact Nat.mul_le_mul_right q e
    rw[hq,List.drop_append_of_le_length (by rw[h1.1,hq];omega),List.take_append_of_le_length (by rw[List.length_drop,h1.1,hq];omega)]
    have:=h1.2 i e
    rwa [hq] at this
   ·obtain rfl:i=n:=by omega
    rw[hq,List.drop_left' (by rw[h1.1,hq])]
    rw[List.take_of_length_le (by omega)]
    exact a1
  ·rw[e1,List.take_add,List.drop_drop]
   exact h2.append a2
theorem Zzo(b o j:Nat):(Addr.mk b o none).add j=⟨b,o+j,none⟩:=by
 unfold Addr.add
 split
 ·rename_i e;subst e;rfl
 ·rfl
theorem open_row{t e:TypeId}{ks:List CK}{v:Value}{d:DataW H}{ps:List MemPlace}{dd:Nat}(hu:P.underlying t=some (.slice e))(hk:Zji P dd e=some ks)(hc:P.cellsOf e=ks.length)(hpos:0<ks.length)(hv:Value.okWide P w .any 0 t v)(hd:DataW.Trod enc P w base spare held t v d ps) :
  v=.slice none 0 0∨(∃ a cap,v=.slice (some a) 0 cap)∨∃(b off len cap:Nat)(vs:List AV),v=.slice (some ⟨b,off,none⟩) len cap∧0<len∧len≤cap∧cap≤maxLen∧Znt ks len vs ∧
   ∃ cur e' lo hi,w.heap[b]?=some (.cells cur e' (lo,hi))∧off+len*ks.length≤cur.size∧Zp [] vs ((cur.toList.drop off).take (len*ks.length)):=by
 obtain⟨n,hn⟩:=hd
 rcases DataW.trod_slice hu hn with⟨h1,_⟩|⟨a,len,cap,elems,rest,m,_,h1,_,_,h2,h3,h4,h5,_⟩
 ·left
  cases v <;> simp_all [Value.cells]
  simp[Value.okWide,hu,Cell.okWide,Cell.ok] at hv
 ·right
  have hv':v=.slice (some a) len cap:=by
   cases v <;> simp_all [Value.cells]
   simp[Value.okWide,hu,Cell.okWide,Cell.ok] at hv
  subst hv'
  have hspot:a.spot=none:=by
   simp only[Value.okWide,hu,Cell.okWide,Cell.ok] at hv
   exact hv.2.2.2.1
  obtain⟨b,off,sp⟩:=a
  simp only at hspot;subst hspot
  by_cases hl:len=0
  ·subst hl;exact .inl ⟨_,_,rfl⟩
  right
  have addr:∀ k,(Addr.mk b off none).add k=⟨b,off+k,none⟩:=fun k=>by
   unfold Addr.add
   split
   ·rename_i e;subst e;rfl
   ·rfl
  have cell:∀ i,i<len→∃ x cs,w.cells? base ⟨b,off+i*P.cellsOf e,none⟩ (P.cellsOf e)=some cs∧DataW.trod enc P w base spare held m e cs=some x:=fun i hi=>by
   have:=h5 i hi
   rw[addr,List.getElem?_eq_getElem (by omega),Option.bind_eq_some_iff] at this
   obtain⟨cs,c1,c2⟩:=this
   exact⟨_,cs,c1,c2⟩
  obtain⟨x0,cs0,c0,_⟩:=cell 0 (by omega)
  obtain⟨_,hl0,hc0⟩:=World.cells?_some c0
  have hcell0:=hc0 0 (by rw[hc];exact hpos)
  have hheap:∃ cur e' lh,w.heap[b]?=some (.cells cur e' lh):=by
   rw[Zzo b (off+0*P.cellsOf e) 0] at hcell0
   unfold World.cell? at hcell0
   simp only at hcell0
   split at hcell0
   ·rename_i cur e' lh hh;exact⟨cur,e',lh,hh⟩
   ·rw[List.getElem?_eq_getElem (by rw[hl0,hc];exact hpos)] at hcell0;cases hcell0
  obtain⟨cur,e',⟨lo,hi⟩,hh⟩:=hheap
  have at_:∀ i,i<len→∀ j,j<ks.length→∃ cv,cur[off+i*ks.length+j]?=some cv:=fun i hi j hj=>by
   obtain⟨x,cs,c1,_⟩:=cell i hi
   obtain⟨_,hl1,hc1⟩:=World.cells?_some c1
   have:=hc1 j (by rw[hc];exact hj)
   rw[Zzo] at this
   unfold World.cell? at this
   simp only[hh] at this
   rw[hc,List.getElem?_eq_getElem (by rw[hl1,hc];exact hj)] at this
   exact⟨_,by simpa using this⟩
  have size:off+len*ks.length≤cur.size:=by
   obtain⟨cv,h⟩:=at_ (len - 1) (by omega) (ks.length - 1) (by omega)
   have h1:=(Array.getElem?_eq_some_iff.1 h).1
   have h2:len*ks.length=(len - 1)*ks.length+ks.length:=by rw[←Nat.succ_mul];congr 1;omega
   omega
  have chunk:∀ i,i<len→∃ asz,Kh ks asz∧Zp [] asz ((cur.toList.drop (off+i*ks.length)).take ks.length)∧asz.length=ks.length:=fun i hi=>by
   obtain⟨x,cs,c1,c2⟩:=cell i hi
   obtain⟨asz,s1,s2,s3⟩:=Z1z dd m e ks cs x hk c2
   obtain⟨_,hl1,hc1⟩:=World.cells?_some c1
   have he:cs=(cur.toList.drop (off+i*ks.length)).take ks.length:=by
    refine List.ext_getElem? fun j=>?_
    by_cases hj:j<ks.length
    ·have h3:=hc1 j (by rw[hc];exact hj)
     rw[Zzo] at h3
     unfold World.cell? at h3
     simp only[hh] at h3
     rw[List.getElem?_take,if_pos hj,List.getElem?_drop,←h3,hc]
     simp
    ·rw[List.getElem?_eq_none (by omega),List.getElem?_eq_none (by rw[List.length_take];omega)]
   rw[he] at s2
   exact⟨asz,s1,s2,by rw[s2.length,←he,s3]⟩
  obtain⟨vs,v1,v2⟩:=chunks rfl cur.toList off len chunk (by simpa using size)
  exact⟨b,off,len,cap,vs,rfl,by omega,h2,h3,v1,cur,e',lo,hi,hh,size,v2⟩
end
end Go.Vai
end
section
namespace Go.Vai
noncomputable section
inductive RA where
 |nil
 |none0
 |row (len cap q:Nat) (T:Tr AV)
def RA.av(id:Nat):RA→AV
 |.nil=>.nils
 |.none0=>.sl0
 |.row len cap _ _=>.sl id 0 len (some cap)
def RA.obj:RA→AObj
 |.nil=>.cells 0 .nil 0 none 0 true false
 |.none0=>.cells 0 .nil 0 none 0 true false
 |.row len _ q T=>.cells (len*q) T 0 none 0 true false
def RA.len:RA→Nat
 |.nil=>0
 |.none0=>0
 |.row len _ _ _=>len
section
variable {H:Type} {enc:TypeId×Value→H} {P:Program} {w:World} {base:Nat} {spare:Nat→Bool} {held:Bool}
end
section
variable {P:Program} {E:Env} {gl:List (Nat×List AV)} {w:World}
theorem Zgr{ng:Nat}{ex:List MEnt}{os:List AObj}(hl:ex.length=os.length)(hro:∀ o∈os,o.isRo=true)(ho:∀(j:Nat) m o,ex[j]?=some m→os[j]?=some o→Jc [] m w o):HRel (V9 ng 0++ex) (Xm ng os) w:=by
 have at_:∀ j,(V9 ng 0++ex)[ng+j]?=ex[j]?:=fun j=>by
  rw[List.getElem?_append_right (by rw[Wo];omega),Wo];congr 1;omega
 refine⟨?_,fun id o h=>?_,fun i j o p m k hi hj _ _ _ _=>?_⟩
 ·have e:(Xm ng os).next=ng+os.length:=Zhb os _
  rw[e,List.length_append,Wo,hl]
 ·obtain⟨j,rfl,hj⟩:=Zax h
  have hjl:=(List.getElem?_eq_some_iff.1 hj).1
  obtain⟨m,hm⟩:∃ m,ex[j]?=some m:=⟨_,List.getElem?_eq_getElem (by omega)⟩
  exact⟨m,by rw[at_,hm],(ho j m o hm hj).carry List.nil_prefix rfl⟩
 ·obtain⟨a,_,ha⟩:=Zax hi
  obtain⟨b,_,hb⟩:=Zax hj
  exact⟨hro o (List.mem_of_getElem? ha),hro p (List.mem_of_getElem? hb)⟩
end
end
end Go.Vai
end
section
namespace Go.Vai
noncomputable section
mutual
theorem Zvv(b:Nat):∀ v:AV,rnV b [] v=rnV 0 [] v
 |.ptr _ _=>rfl
 |.sl _ _ _ _=>rfl
 |.yld _=>rfl
 |.mapv _=>rfl
 |.nilm=>rfl
 |.opq _=>rfl
 |.fn f x y=>by simp only[rnV,Zfx b x,Zfx b y]
 |.iface t x=>by simp only[rnV,Zvv b x]
 |.agg l=>by simp only[rnV,Zfx b l]
 |.tup l=>by simp only[rnV,Zfx b l]
 |.bool _=>rfl
 |.int _ _=>rfl
 |.str _=>rfl
 |.nilp=>rfl
 |.nils=>rfl
 |.sl0=>rfl
 |.nilf=>rfl
 |.nili=>rfl
theorem Zfx(b:Nat):∀ v:List AV,Zds b [] v=Zds 0 [] v
 |[]=>rfl
 |v::vs=>by simp only[Zds,Zvv b v,Zfx b vs]
end
def Yo(F:Nat→List AV→Option AV):Sm:=fun f args H=>Option.rec (motive:=fun _=>Option (AV×AHeap)) none (fun v=>some (v,H)) (F f args)
section
variable {P:Program} {gl:List (Nat×List AV)}
theorem W0{F:Nat→List AV→Option AV}
  (hF:∀ f args v,F f args=some v→∃(E:Env)(n:Nat)(s:Smk AV),Qp E s∧(∀ w,Z4 gl w→EnvOk E P (Kept gl w))∧(gl.all fun x=>Nat.blt x.1 E.ng)=true∧(E.fn f).isSome=true∧(∀ a∈args,Plain a)∧∃ o,W2 E s Qe n (.call f args (Yc E.ng gl)) o jK=some v):Zr P gl (Yo F):=by
 intro f args H v H' M w cargs hs hw hr ha
 unfold Yo at hs
 cases hF':F f args with
 |none=>rw[hF'] at hs;cases hs
 |some u=>
  rw[hF'] at hs
  have hs:some (u,H)=some (v,H'):=hs
  simp only[Option.some.injEq,Prod.mk.injEq] at hs
  obtain⟨rfl,rfl⟩:=hs
  obtain⟨E,n,s,hs,hE,hgl,h1,h2,o,h3⟩:=hF f args _ hF'
  obtain⟨x,o',e,hk⟩:=Zb4 E hs Qe n _ _ _ _ h3
  cases x with
  |code a b c=>cases hk
  |dcall a=>cases hk
  |call c=>
   cases c with
   |pan v H=>cases hk
   |ret v1 H1=>
    have hk:rnV 0 [] v1=some u:=hk
    refine Zgh.calls (os:=[]) (Zbk hE hgl h1 (Zp.anyPlain h2 ha _) e) hw hr ?_
    rintro v2 H2 ⟨rfl,rfl⟩
    exact⟨[],List.nodup_nil,rfl,by rw[Zvv];exact hk,fun j x hx=>by simp at hx⟩
theorem W4{F:Nat→List AV→Option AV}
  (hF:∀ f args v,F f args=some v→∃(E:Env)(n:Nat),(∀ w,Z4 gl w→EnvOk E P (Kept gl w))∧(gl.all fun x=>Nat.blt x.1 E.ng)=true∧(E.fn f).isSome=true∧(∀ a∈args,Plain a)∧∃ o,Yr E n (.call f args (Yc E.ng gl)) o jK=some v):Zr P gl (Yo F):=
 W0 fun f args v h=>by
  obtain⟨E,n,a,b,c,d,o,e⟩:=hF f args v h
  exact⟨E,n,_,W8 E,a,b,c,d,o,e⟩
end
theorem Vg{α:Type}(t:Tr α){i:Nat}(j:Nat)(v:α)(h:i<2 ^ 47):(t.set i v).get j=if j=i then some v else t.get j:=Tr.getF_eq 48 t i j (some v) (by omega)
theorem Zgc{α:Type}:∀(vs:List α)(t:Tr α)(k j:Nat),k+vs.length≤2 ^ 47→(t.putAll k vs).get j=if k≤j∧j<k+vs.length then vs[j - k]? else t.get j
 |[],t,k,j,_=>by rw[if_neg (by simp only[List.length_nil];omega)];rfl
 |v::vs,t,k,j,h=>by
  simp only[List.length_cons] at h ⊢
  show((t.set k v).putAll (k+1) vs).get j=_
  rw[Zgc vs _ _ _ (by omega),Vg _ _ _ (by omega)]
  by_cases h1:j=k
  ·subst h1
   rw[if_neg (by omega),if_pos rfl,if_pos (by omega),Nat.sub_self];rfl
  ·rw[if_neg h1]
   by_cases h2:k+1≤j∧j<k+1+vs.length
   ·rw[if_pos h2,if_pos (by omega),show j - k=(j - (k+1))+1 by omega,List.getElem?_cons_succ]
   ·rw[if_neg h2,if_neg (by omega)]
section
variable {H:Type} {enc:TypeId×Value→H} {P:Program} {w:World} {base:Nat} {spare:Nat→Bool} {held:Bool}
theorem Ydl{n:Nat}{t:TypeId}{cs:List Value}{x:DataW H×List MemPlace}{ms:Array (String×TypeId)}(hu:P.underlying t=some (.interface ms))(h:DataW.trod enc P w base spare held n t cs=some x):Zp [] [.opq none] cs:=by
 cases n with
 |zero=>simp[DataW.trod] at h
 |succ n=>
  match cs with
  |[]=>simp[DataW.trod,hu] at h
  |[v]=>
   cases v with
   |nilIface=>exact⟨⟨fun _ e=>(by cases e),fun _ e=>(by cases e),fun _ e=>(by cases e)⟩,trivial⟩
   |iface u y=>exact⟨⟨fun _ e=>(by cases e),fun _ e=>(by cases e),fun _ e=>(by cases e)⟩,trivial⟩
   |_=>simp[DataW.trod,hu] at h
  |_::_::_=>simp[DataW.trod,hu] at h
theorem Zy3{laid:List (String×DataW Unit)}(h:laidMetH P laid w)(hp:(laid.all fun x=>x.2.handleName?.isNone)=true){name:String}{d:DataW Unit}(hm:(name,d)∈laid){g t:Nat}(hg:P.globalNamed name=some g)(ht:(P.globals[g]?).map (·.type)=some t)
  {ms:Array (String×TypeId)} (hu:P.underlying t=some (.interface ms)):∃ cs e lo hi,w.heap[g]?=some (.cells cs e (lo,hi))∧Zp [] [.opq none] cs.toList:=by
 rw[MakeChecks.laidMetH_plain _ _ _ hp] at h
 obtain⟨g',t',cs,fuel,p,h1,h2,h3,h4⟩:=Lib.laidMet.reads h hm
 rw[hg] at h1;cases h1
 rw[ht] at h2;cases h2
 have:=Ydl hu h4
 unfold World.var? at h3
 rw[hg] at h3
 simp only[Option.bind_some] at h3
 cases hh:w.heap[g]? with
 |none=>rw[hh] at h3;cases h3
 |some o=>
  rw[hh] at h3
  cases o with
  |cells cur e fz=>
   simp only[Option.some.injEq] at h3
   subst h3
   obtain⟨lo,hi⟩:=fz
   exact⟨_,e,lo,hi,rfl,this⟩
  |_=>simp at h3
end
section
open Go.RowKit
variable {H:Type} {enc:TypeId×Value→H} {P:Program} {w:World} {base:Nat} {spare:Nat→Bool} {held:Bool}
theorem Ypn{t e:TypeId}{ks:List CK}{v:Value}{d:DataW H}{ps:List MemPlace}{dd:Nat}(hu:P.underlying t=some (.slice e))(hk:Zji P dd e=some ks)(hc:P.cellsOf e=ks.length)(hpos:0<ks.length)
  (hv:Value.okWide P w .any 0 t v) (hd:DataW.Trod enc P w base spare held t v d ps):v=.slice none 0 0∨(∃ a cap,v=.slice (some a) 0 cap) ∨
  ∃(len cap:Nat)(vs:List AV)(m:MEnt),0<len∧(∃ a,v=.slice (some a) len cap)∧len≤cap∧Znt ks len vs∧Jc [] m w (.cells (len*ks.length) (Tr.nil.putAll 0 vs) 0 none 0 true false)∧∀ M (id:Nat),M[id]?=some m→Zm M (.sl id 0 len (some cap)) v:=by
 rcases open_row hu hk hc hpos hv hd with rfl|⟨a,cap,rfl⟩|⟨b,off,len,cap,vs,rfl,hl,hlc,_,hs,cur,e',lo,hi,hh,hsz,hr⟩
 ·exact .inl rfl
 ·exact .inr (.inl ⟨a,cap,rfl⟩)
 ·refine .inr (.inr ⟨len,cap,vs,⟨b,off,0,0⟩,hl,⟨_,rfl⟩,hlc,hs,⟨cur,e',lo,hi,hh,(fun e=>by cases e),hsz,(fun gs e=>by cases e),(fun e=>by cases e),(fun e=>by cases e),fun i v h=>?_⟩,fun M id hm=>⟨⟨b,off,0,0⟩,cap,hm,by simp,(fun d e=>by cases e;rfl),fun e=>by cases e⟩⟩)
  have hv:vs[i]?=some v:=by
   rcases Tr.get_putAll _ h with⟨q,rfl,hq⟩|⟨_,hu⟩
   ·simpa using hq
   ·simp[Tr.get_nil] at hu
  have hi:i<vs.length:=(List.getElem?_eq_some_iff.1 hv).1
  rw[hs.1] at hi
  obtain⟨cv,c1,c2⟩:=hr.get i v hv
  refine⟨hi,cv,?_,c2⟩
  rw[List.getElem?_take,if_pos hi,List.getElem?_drop] at c1
  simpa using c1
end
end
end Go.Vai
end
section
namespace Go.Vai
noncomputable section
theorem Zx{α:Type}{p:α→Bool}{b:Bool}{x y:α}(hx:p x=true)(hy:p y=true):p (bc b x y)=true:=by cases b <;> assumption
def at_:List Nat→AV→AV
 |[],v=>v
 |i::p,.tup l=>at_ p (l.getD i .nilp)
 |i::p,.agg l=>at_ p (l.getD i .nilp)
 |_::_,v=>v
def Zeo:AV→Bool
 |.bool b=>b
 |_=>false
def Va:AV→Int
 |.int _ n=>n
 |_=>0
def Ygg:AV→List UInt8
 |.str s=>s
 |_=>[]
theorem W9(k:IntKind)(n:Int):AV.eqb (.int k n) (.int k n)=true:=by simp[AV.eqb,sameKind,Ya]
theorem Zas(s:List UInt8):AV.eqb (.str s) (.str s)=true:=by simp[AV.eqb,Q6]
theorem Yp2(b:Bool):AV.eqb (.bool b) (.bool b)=true:=by simp[AV.eqb]
mutual
theorem Zpj:∀ v:AV,AV.eqb v v=true
 |.bool b=>Yp2 b
 |.int k n=>W9 k n
 |.str s=>Zas s
 |.nilp=>rfl
 |.ptr i o=>by simp[AV.eqb]
 |.nils=>rfl
 |.sl i o n none=>by simp[AV.eqb]
 |.sl i o n (some c)=>by simp[AV.eqb]
 |.sl0=>rfl
 |.nilf=>rfl
 |.fn f x y=>by simp only[AV.eqb,Zea x,Zea y,Bool.and_self,Nat.beq_refl]
 |.yld i=>by simp[AV.eqb]
 |.nili=>rfl
 |.iface t v=>by simp only[AV.eqb,Zpj v,Nat.beq_refl,Bool.and_self]
 |.agg l=>by simp only[AV.eqb];exact Zea l
 |.tup l=>by simp only[AV.eqb];exact Zea l
 |.nilm=>rfl
 |.mapv i=>by simp[AV.eqb]
 |.opq _=>by simp[AV.eqb]
theorem Zea:∀ l:List AV,AV.eqb.eqbs l l=true
 |[]=>rfl
 |v::vs=>by simp only[AV.eqb.eqbs,Zpj v,Zea vs,Bool.and_self]
end
theorem J7(l:List AV):AV.eqb (.agg l) (.agg l)=true:=Zpj _
def Zga:List AV→Bool
 |[]=>true
 |.bool _::l=>Zga l
 |.int _ _::l=>Zga l
 |.str _::l=>Zga l
 |.agg c::l=>plainC c&&Zga l
 |_::_=>false
where plainC:List AV→Bool
 |[]=>true
 |.bool _::l=>plainC l
 |.int _ _::l=>plainC l
 |.str _::l=>plainC l
 |_::_=>false
theorem Zhh:∀{l:List AV},Zga.plainC l=true→∀ b keep,Zds b keep l=some l
 |[],_,_,_=>rfl
 |.bool _::l,h,b,keep=>by simp only[Zds,rnV,Zhh (l:=l) h b keep]
 |.int _ _::l,h,b,keep=>by simp only[Zds,rnV,Zhh (l:=l) h b keep]
 |.str _::l,h,b,keep=>by simp only[Zds,rnV,Zhh (l:=l) h b keep]
theorem Zh:∀{l:List AV},Zga l=true→∀ a∈l,Plain a
 |[],_,a,ha=>by cases ha
 |.bool x::l,h,a,ha=>by
  rcases List.mem_cons.1 ha with rfl|ha
  ·exact fun _ _=>rfl
  ·exact Zh (l:=l) h a ha
 |.int k n::l,h,a,ha=>by
  rcases List.mem_cons.1 ha with rfl|ha
  ·exact fun _ _=>rfl
  ·exact Zh (l:=l) h a ha
 |.str s::l,h,a,ha=>by
  rcases List.mem_cons.1 ha with rfl|ha
  ·exact fun _ _=>rfl
  ·exact Zh (l:=l) h a ha
 |.agg c::l,h,a,ha=>by
  have h:(Zga.plainC c&&Zga l)=true:=h
  rw[Bool.and_eq_true] at h
  rcases List.mem_cons.1 ha with rfl|ha
  ·exact fun b keep=>by simp only[rnV,Zhh h.1 b keep]
  ·exact Zh (l:=l) h.2 a ha
theorem Xz{t:Tr AV}(h:Qq t){vs:List AV}{k:Nat}(hs:∀ v∈vs,Plain v):Qq (t.putAll k vs):=fun i v hv=>by
 rcases Tr.get_putAll _ hv with⟨q,_,hq⟩|⟨_,hu⟩
 ·exact hs v (List.mem_of_getElem? hq)
 ·exact h i v hu
section
variable {P:Program} {gl:List (Nat×List AV)}
end
end
end Go.Vai
end
section
namespace Go.Vai
noncomputable section
def Yby:List UInt8→List UInt8→Bool
 |[],_=>true
 |_::_,[]=>false
 |b::bs,a::l=>bif Nat.beq b.toNat a.toNat then Yby bs l else false
def Yq:List UInt8→List UInt8→Bool
 |[],sub=>Yby sub []
 |a::l,sub=>bif Yby sub (a::l) then true else Yq l sub
theorem Z8v:∀ b a:List UInt8,Yby b a=b.isPrefixOf a
 |[],a=>by cases a <;> rfl
 |_::_,[]=>rfl
 |b::bs,a::l=>by
  rw[Yby,Z8v bs l]
  show _=((b==a)&&bs.isPrefixOf l)
  by_cases h:b=a
  ·subst h;simp
  ·have:Nat.beq b.toNat a.toNat=false:=by
    rw[Bool.eq_false_iff]
    intro e
    rw[Nat.beq_eq] at e
    exact h (UInt8.toNat_inj.1 e)
   rw[this,beq_false_of_ne h]
   rfl
theorem Z8b:∀ s sub:List UInt8,Yq s sub=Lib.contains s sub
 |[],sub=>by
  unfold Lib.contains Lib.index Yq
  cases sub <;> simp[Yby]
 |a::l,sub=>by
  have ih:=Z8b l sub
  unfold Lib.contains at ih ⊢
  unfold Lib.index Yq
  rw[ih,Z8v,Bool.cond_eq_ite]
  have h:=Lib.index_ge l sub
  by_cases h1:sub.isPrefixOf (a::l)=true
  ·simp[h1]
  ·simp only[h1,Bool.false_eq_true,if_false,beq_iff_eq]
   by_cases h2:Lib.index l sub=-1
   ·simp[h2]
   ·rw[if_neg h2]
    congr 1
    apply propext
    constructor <;> intro _ <;> omega
def Jm(f:Nat):Sm:=fun g args H=>match args with
 |[.str a,.str b]=>bif Nat.beq g f&&Nat.blt a.length 4294967281 then some (.bool (Yq a b),H) else none
 |_=>none
theorem Yon{gl:List (Nat×List AV)}{g:Nat}{k:IntKind}{w:World}(hg:(g,[.opq (some k)])∈gl)(hw:Z4 gl w):∃ m,w.cell? ⟨g,0,none⟩=some (.int k m):=by
 obtain⟨cs,e,lo,hi,h1,h2⟩:=hw g _ hg
 have hl:=h2.length
 obtain⟨v,hv,_,_,h3⟩:=h2.get 0 _ rfl
 obtain⟨m,rfl⟩:=h3 k rfl
 refine⟨m,?_⟩
 simp only[World.cell?,h1]
 simpa using hv
theorem Yt6{P:Program}{ρ:Shelf.Ren}(L:Go.Proofs.Lays.n144 P ρ){gl:List (Nat×List AV)}(hg:(ρ.g 1,[.opq (some .i64)])∈gl):Zr P gl (Jm (ρ.f 144)):=by
 intro g args H v H' M w cargs hs hw hr ha
 unfold Jm at hs
 split at hs
 case h_2=>cases hs
 rename_i a b
 cases hb:Nat.beq g (ρ.f 144)&&Nat.blt a.length 4294967281 with
 |false=>rw[hb] at hs;cases hs
 |true=>
  rw[hb] at hs
  simp only[cond_true,Option.some.injEq,Prod.mk.injEq] at hs
  obtain⟨rfl,rfl⟩:=hs
  rw[Bool.and_eq_true,Nat.beq_eq,Nat.blt_eq] at hb
  obtain⟨rfl,hl⟩:=hb
  match cargs,ha with
  |[x,y],ha=>
   obtain⟨h1,h2,_⟩:=ha
   simp only[Zm] at h1 h2
   subst h1;subst h2
   obtain⟨m,hm⟩:=Yon hg hw
   have e:∀ args w,(callFunc (ρ.f 144) args).run P w=.ok (.enter (ρ.f 144) args) w:=Go.Proofs.enters_of L.f144 (by kernel_rfl) rfl
   refine .inr ⟨e _ _,callsIn_wide.2 ((Go.Proofs.Any.strings_Contains L ⟨a.toArray⟩ ⟨b.toArray⟩ m w (by simpa [ByteArray.size] using hl) hm).mono fun e w' he=>?_)⟩
   obtain⟨rfl,rfl⟩:=he
   obtain⟨x1,x2⟩:=(Keeps.refl w').ext hr
   exact⟨_,_,M,rfl,x1,x2,by simp[Zm,Z8b]⟩
end
end Go.Vai
end
section
namespace Go.Vai
theorem Yxl{k:IntKind}{n:Nat}(h:n<Ya5 k):inR k (.ofNat n)=true:=by
 show Nat.blt n _=true
 rw[Nat.blt_eq];exact h
theorem Zb8{k:IntKind}{n:Nat}(h:n<Ya5 k):Za k (.ofNat n)=.ofNat n:=by
 unfold Za
 rw[Yxl h];rfl
end Go.Vai
end
section
namespace Go.Vai
noncomputable section
section
variable {P:Program} {gl:List (Nat×List AV)} {E:Env}
theorem Zsu{M:List MEnt}{v:AV}{cv:Value}(hp:Plain v)(h:Zm M v cv)(M':List MEnt):Zm M' v cv:=
 Kp (b:=0) (keep:=[]) (fun k i hk=>by simp at hk) v v cv (hp 0 []) h
theorem Zif{f:FuncId}{fn:AFunc}{args:List AV}{cargs:List Value}{u:AV}{M:List MEnt}{H:AHeap}{w:World}{os:List AObj}{ex:List MEnt}(hE:∀ w,Z4 gl w→EnvOk E P (Kept gl w))(hf:E.fn f=some fn)(hw:Z4 gl w)(hr:HRel M H w)
  (hl:ex.length=os.length) (hro:∀ o∈os,o.isRo=true) (ho:∀(j:Nat) m o,ex[j]?=some m→os[j]?=some o→Jc [] m w o) (ha:Zp (V9 E.ng 0++ex) args cargs)
  (hp:Plain u) (h:Tri E P (Kept gl w) none fn.body (Qa fn args) (Xm E.ng os) fun e fr H=>(e=.normal∨e=.ret)∧fr.df=[]∧∃ keep fr' H' l,Ren E.ng keep fr H fr' H'∧K7 E fr'.t H' fn.results=some l∧Zn9 l=u):Jp P f cargs M H w (.ret u H):=by
 obtain⟨Fn,hF⟩:=(hE w hw).fns f fn hf
 have hr0:=Zgr (ng:=E.ng) hl hro ho
 have kp:Kept gl w (V9 E.ng 0++ex) (Xm E.ng os) w:=⟨hw,Keeps.refl w,fun b _ ⟨id,o,m,e,r,_⟩=>by
  obtain⟨j,_,hj⟩:=Zax e
  rw[hro o (List.mem_of_getElem? hj)] at r;cases r⟩
 refine .inr ⟨Zhc hF _,callsIn_of_wp hF.at_ hF.body trivial ?_⟩
 refine wpIn_mono (h _ w _ ⟨hr0,(Zdp E).mono (List.prefix_append _ _),kp⟩ (Zk2 hF ha)) ?_
 rintro ex1 a1 w1 ⟨e,fr,H1,M1,⟨he,hd,keep,fr2,H2,l,ren,hl1,hu⟩,s1,er,f1⟩
 have hdf:a1.defers=[]:=by
  have:=f1.df
  rw[hd] at this
  generalize a1.defers=x at this ⊢
  cases this;rfl
 rw[←hF.res] at hl1
 obtain⟨M2,s2,f2⟩:=ren.to (Zz hw) s1 f1
 obtain⟨cv,r1,r2⟩:=Zau (hE w hw).tys s2.hr f2.t hl1
 rw[hu] at r2
 have hv:Zm M u cv:=Zsu hp r2 M
 have kk:=s1.i.2.1
 have fin:Vv M H w (.ret u H) (.returned cv) w1:=
  ⟨u,H,M,rfl,⟨List.prefix_refl _,kk.size,kk.os,kk.tape,kk.output,fun b hb hn=>⟨kk.old b hb,hn⟩,fun _ _ hn=>hn⟩,⟨hr.len,fun id o e=>by
   obtain⟨m,hm,r⟩:=hr.obj id o e
   exact⟨m,hm,r.carry (List.prefix_refl _) (kk.old _ r.lt)⟩,hr.inj⟩,hv⟩
 rcases he with rfl|rfl
 ·simp only[Q4] at er;subst er
  exact⟨hdf,cv,r1,fin⟩
 ·simp only[Q4] at er;subst er
  exact⟨hdf,cv,r1,fin⟩
end
end
end Go.Vai
end
section
namespace Go.Vai
noncomputable section
def Zaa(b0 b1 b2 b3:Int):Int:=Za .u32 (Zw .u32 (Za .u32 (Zw .u32 (Za .u32 (Zw .u32 (Za .u32 b0) (Za .u32 (Zf (Za .u32 b1) 8)))) (Za .u32 (Zf (Za .u32 b2) 16)))) (Za .u32 (Zf (Za .u32 b3) 24)))
def Z1t(u:Int→AV)(H:AHeap):Option AV→Option AV→Option AV→Option AV→Option (AV×AHeap)
 |some (.int .u8 b0),some (.int .u8 b1),some (.int .u8 b2),some (.int .u8 b3)=>some (u (Zaa b0 b1 b2 b3),H)
 |_,_,_,_=>none
def Z9f(u:Int→AV)(H:AHeap)(o a:Nat):Option AObj→Option (AV×AHeap)
 |some (.cells _ T _ _ _ _ _)=>Z1t u H (T.get (o+a)) (T.get (o+(a+1))) (T.get (o+(a+2))) (T.get (o+(a+3)))
 |_=>none
def Ze5(f:Nat)(u:Int→AV):Sm:=fun g args H=>match args with
 |[.sl id o l _,.int .i64 (.ofNat a)]=>bif Nat.beq g f&&(Nat.ble (a+4) l&&(Nat.blt l 4611686018427387904&&Nat.blt (o+(a+3)) 140737488355328)) then Z9f u H o a (H.get id) else none
 |_=>none
theorem Zno{M:List MEnt}{m:MEnt}{w:World}{n:Nat}{T T2:Tr AV}{e:TypeId}{g:Option Nat}{fz:Nat}{ro mk:Bool}(h:Jc M m w (.cells n T e g fz ro mk))(hT:∀ i v,T2.get i=some v→T.get i=some v∧Plain v)(e2:TypeId):Jc [] m w (.cells n T2 e2 none 0 true false):=by
 obtain⟨cur,e',lo,hi,h1,h2,h3,h4,h5,h6,h7⟩:=h
 refine⟨cur,e',lo,hi,h1,(fun e=>by cases e),h3,(fun gs e=>by cases e),(fun e=>by cases e),(fun e=>by cases e),fun i v hv=>?_⟩
 obtain⟨hg,hp⟩:=hT i v hv
 obtain⟨a,cv,b,c⟩:=h7 i v hg
 exact⟨a,cv,b,Zsu hp c []⟩
theorem Zzx{u:Int→AV}{H:AHeap}{x0 x1 x2 x3:Option AV}{r:AV×AHeap}(h:Z1t u H x0 x1 x2 x3=some r):∃ b0 b1 b2 b3,x0=some (.int .u8 b0)∧x1=some (.int .u8 b1)∧x2=some (.int .u8 b2)∧x3=some (.int .u8 b3)∧r=(u (Zaa b0 b1 b2 b3),H):=by
 unfold Z1t at h
 split at h
 ·simp only[Option.some.injEq] at h
  exact⟨_,_,_,_,rfl,rfl,rfl,rfl,h.symm⟩
 ·cases h
theorem Z65{P:Program}{gl:List (Nat×List AV)}{E:Env}{f:Nat}{fn:AFunc}{u:Int→AV}(hE:∀ w,Z4 gl w→EnvOk E P (Kept gl w))(hf:E.fn f=some fn)(hu:∀ x,Plain (u x))
  (hb:∀ w,Z4 gl w→∀(o l c n a:Nat)(T:Tr AV)(b0 b1 b2 b3:Int),a+4≤l→l<4611686018427387904→T.get (o+a)=some (.int .u8 b0)→T.get (o+(a+1))=some (.int .u8 b1)→T.get (o+(a+2))=some (.int .u8 b2)→T.get (o+(a+3))=some (.int .u8 b3)→
   Tri E P (Kept gl w) none fn.body (Qa fn [.sl E.ng o l (some c),.int .i64 (.ofNat a)]) (Xm E.ng [.cells n T 0 none 0 true false]) fun e fr H=>(e=.normal∨e=.ret)∧fr.df=[]∧∃ keep fr' H' l,Ren E.ng keep fr H fr' H'∧K7 E fr'.t H' fn.results=some l∧Zn9 l=u (Zaa b0 b1 b2 b3)):Zr P gl (Ze5 f u):=by
 intro g args H v H' M w cargs hs hw hr ha
 unfold Ze5 at hs
 split at hs
 case h_2=>cases hs
 rename_i id o l _ a
 cases hc:Nat.beq g f&&(Nat.ble (a+4) l&&(Nat.blt l 4611686018427387904&&Nat.blt (o+(a+3)) 140737488355328)) with
 |false=>rw[hc] at hs;cases hs
 |true=>
  rw[hc] at hs
  simp only[cond_true] at hs
  rw[Bool.and_eq_true,Bool.and_eq_true,Bool.and_eq_true,Nat.beq_eq,Nat.ble_eq,Nat.blt_eq,Nat.blt_eq] at hc
  obtain⟨rfl,hal,hl,hoa⟩:=hc
  cases hg:H.get id with
  |none=>rw[hg] at hs;cases hs
  |some ob=>
   rw[hg] at hs
   cases ob with
   |cells n T e gx fz ro mk=>
    obtain⟨b0,b1,b2,b3,h0,h1,h2,h3,hr2⟩:=Zzx hs
    simp only[Prod.mk.injEq] at hr2
    obtain⟨rfl,rfl⟩:=hr2
    let T2:Tr AV:=(((Tr.nil.set (o+a) (.int .u8 b0)).set (o+(a+1)) (.int .u8 b1)).set (o+(a+2)) (.int .u8 b2)).set (o+(a+3)) (.int .u8 b3)
    have hT:∀ i v,T2.get i=some v→T.get i=some v∧Plain v:=by
     intro i v hv
     rcases Tr.get_set hv with⟨rfl,rfl⟩|⟨_,hv⟩
     ·exact⟨h3,Q2 _ _⟩
     rcases Tr.get_set hv with⟨rfl,rfl⟩|⟨_,hv⟩
     ·exact⟨h2,Q2 _ _⟩
     rcases Tr.get_set hv with⟨rfl,rfl⟩|⟨_,hv⟩
     ·exact⟨h1,Q2 _ _⟩
     rcases Tr.get_set hv with⟨rfl,rfl⟩|⟨_,hv⟩
     ·exact⟨h0,Q2 _ _⟩
     ·simp[Tr.get_nil] at hv
    obtain⟨m,hm,hrel⟩:=hr.obj id _ hg
    have hsub:=Zno hrel hT 0
    have hp:(2:Nat) ^ 47=140737488355328:=by decide
    have g3:T2.get (o+(a+3))=some (.int .u8 b3):=by rw[Vg _ _ _ (by omega),if_pos rfl]
    have g2:T2.get (o+(a+2))=some (.int .u8 b2):=by rw[Vg _ _ _ (by omega),if_neg (by omega),Vg _ _ _ (by omega),if_pos rfl]
    have g1:T2.get (o+(a+1))=some (.int .u8 b1):=by rw[Vg _ _ _ (by omega),if_neg (by omega),Vg _ _ _ (by omega),if_neg (by omega),Vg _ _ _ (by omega),if_pos rfl]
    have g0:T2.get (o+a)=some (.int .u8 b0):=by rw[Vg _ _ _ (by omega),if_neg (by omega),Vg _ _ _ (by omega),if_neg (by omega),Vg _ _ _ (by omega),if_neg (by omega),Vg _ _ _ (by omega),if_pos rfl]
    match cargs,ha with
    |[cv0,cv1],⟨r0,r1,_⟩=>
     obtain⟨m',c',hm',rfl,_,_⟩:=r0
     rw[hm] at hm';cases hm'
     have hx:(V9 E.ng 0++[m])[E.ng]?=some m:=by
      rw[List.getElem?_append_right (by rw[Wo];omega),Wo,Nat.sub_self];rfl
     refine Zif (ex:=[m]) (os:=[.cells n T2 0 none 0 true false]) (args:=[.sl E.ng o l (some c'),.int .i64 (.ofNat a)]) hE hf hw hr rfl (fun o ho=>by cases List.mem_singleton.1 ho;rfl) (fun j m2 o2 e1 e2=>?_) ⟨⟨m,c',hx,rfl,(fun d e=>by cases e;rfl),(fun e=>by cases e)⟩,r1,trivial⟩ (hu _) (hb w hw o l c' n a T2 b0 b1 b2 b3 hal hl g0 g1 g2 g3)
     match j,e1,e2 with
     |0,e1,e2=>cases e1;cases e2;exact hsub
     |j+1,e1,e2=>simp at e1
   |_=>cases hs
end
end Go.Vai
end
section
namespace Go.Vai
noncomputable section
variable {α:Type}
end
end Go.Vai
end
section
namespace Go.Vai
theorem Zuq(k:IntKind)(m:Nat)(hk:k.signed=false)(hb:k.bits=m)(x:Int):Za k x=x % (2 ^ m:Int):=by
 rw[Jg]
 unfold IntKind.wrap
 simp[hk,hb]
theorem Zfq(x:Int):Za .u8 x=x % 256:=Zuq .u8 8 rfl rfl x
theorem Ya0(x:Int):Za .u16 x=x % 65536:=Zuq .u16 16 rfl rfl x
theorem Z1(x:Int):Za .u32 x=x % 4294967296:=Zuq .u32 32 rfl rfl x
theorem Yp(x:Int):Za .i64 x=(x+9223372036854775808) % 18446744073709551616 - 9223372036854775808:=by
 rw[Jg]
 unfold IntKind.wrap
 simp only[show IntKind.i64.bits=64 from rfl,show IntKind.i64.signed=true from rfl,Bool.true_and,ge_iff_le,decide_eq_true_eq]
 have e:(2:Int) ^ 64=18446744073709551616:=by decide
 have e2:(2:Int) ^ (64 - 1)=9223372036854775808:=by decide
 rw[e,e2]
 split <;> omega
theorem Kk(x:Int):Za .i32 x=(x+2147483648) % 4294967296 - 2147483648:=by
 rw[Jg]
 unfold IntKind.wrap
 simp only[show IntKind.i32.bits=32 from rfl,show IntKind.i32.signed=true from rfl,Bool.true_and,ge_iff_le,decide_eq_true_eq]
 have e:(2:Int) ^ 32=4294967296:=by decide
 have e2:(2:Int) ^ (32 - 1)=2147483648:=by decide
 rw[e,e2]
 split <;> omega
theorem subB(a b:Int):Int.sub a b=a - b:=rfl
theorem Zrl(a b:Int):Int.mul a b=a*b:=rfl
theorem J3(n:Nat):Int.ofNat n=(n:Int):=rfl
theorem Y7b(a b:Int):Z2 a b=decide (a<b):=Y2 a b
theorem Yvs(a b:Int):Zd a b=decide (a=b):=by
 cases a <;> cases b <;> simp only[Zd] <;> rw[Bool.eq_iff_iff,decide_eq_true_iff]
 ·rw[Nat.beq_eq,Int.ofNat.injEq]
 ·simp
 ·simp
 ·rw[Nat.beq_eq,Int.negSucc.injEq]
theorem Kx(x:Int)(k:Nat):Zc x k=x / ((2 ^ k:Nat):Int):=by
 show Int.fdiv x ((2 ^ k:Nat):Int)=_
 rw[Int.fdiv_eq_ediv_of_nonneg]
 exact Int.natCast_nonneg _
theorem Za9(x:Int)(k:Nat):Zf x k=x*((2 ^ k:Nat):Int):=rfl
theorem Y73(x:Int):Int.tdiv x (.ofNat 1)=x:=Int.tdiv_one x
theorem Zh3{k:IntKind}{x:Int}:((bitsOf k x:Nat):Int)=x % ((2 ^ k.bits:Nat):Int):=by
 unfold bitsOf
 have e:(2 ^ k.bits:Int)=((2 ^ k.bits:Nat):Int):=by rw[Int.natCast_pow];rfl
 rw[e,Int.toNat_of_nonneg]
 exact Int.emod_nonneg _ (by have:=Nat.two_pow_pos k.bits;omega)
theorem bits_nat{k:IntKind}{n:Nat}(h:n<2 ^ k.bits):bitsOf k (n:Int)=n:=by
 have:=Zh3 (k:=k) (x:=(n:Int))
 rw[←Int.natCast_emod,Nat.mod_eq_of_lt h] at this
 exact_mod_cast this
theorem Zma{kd:IntKind}{x:Int}{n:Nat}(k:Nat)(hn:n+1=2 ^ k)(hk:k≤kd.bits):Ze kd x (.ofNat n)=x % ((2 ^ k:Nat):Int):=by
 unfold Ze
 have hn':n=2 ^ k - 1:=by omega
 have hlt:n<2 ^ kd.bits:=by
  have:=Nat.pow_le_pow_right (n:=2) (by omega) hk
  omega
 show((Nat.land (bitsOf kd x) (bitsOf kd (n:Int)):Nat):Int)=_
 rw[bits_nat hlt,hn']
 show(((bitsOf kd x)&&&(2 ^ k - 1):Nat):Int)=_
 rw[Nat.and_two_pow_sub_one_eq_mod,Int.natCast_emod,Zh3]
 have hd:((2 ^ k:Nat):Int) ∣ ((2 ^ kd.bits:Nat):Int):=Int.natCast_dvd_natCast.2 (Nat.pow_dvd_pow 2 hk)
 exact Int.emod_emod_of_dvd _ hd
theorem Z5z{a b i:Nat}(h:b<2 ^ i)(ha:a % 2 ^ i=0):a|||b=a+b:=by
 have e:a=2 ^ i*(a / 2 ^ i):=by
  have:=Nat.div_add_mod a (2 ^ i)
  omega
 rw[e]
 exact(Nat.two_pow_add_eq_or_of_lt h _).symm
theorem Ze6{kd:IntKind}{x y:Int}(i:Nat)(hx:0≤x)(hx2:x<((2 ^ i:Nat):Int))(hy:0≤y)(hy2:y<((2 ^ kd.bits:Nat):Int))(hm:y % ((2 ^ i:Nat):Int)=0)(hi:i≤kd.bits):Zw kd x y=x+y:=by
 obtain⟨a,rfl⟩:=Int.eq_ofNat_of_zero_le hx
 obtain⟨b,rfl⟩:=Int.eq_ofNat_of_zero_le hy
 have h1:a<2 ^ i:=by exact_mod_cast hx2
 have h2:b<2 ^ kd.bits:=by exact_mod_cast hy2
 have h3:b % 2 ^ i=0:=by exact_mod_cast hm
 have h4:=Nat.pow_le_pow_right (n:=2) (by omega) hi
 unfold Zw
 rw[bits_nat (by omega),bits_nat h2]
 show((a|||b:Nat):Int)=_
 rw[Nat.or_comm,Z5z h1 h3]
 omega
theorem Yh8{kd:IntKind}{x y:Int}(i:Nat)(hy:0≤y)(hy2:y<((2 ^ i:Nat):Int))(hx:0≤x)(hx2:x<((2 ^ kd.bits:Nat):Int))(hm:x % ((2 ^ i:Nat):Int)=0)(hi:i≤kd.bits):Zw kd x y=x+y:=by
 obtain⟨a,rfl⟩:=Int.eq_ofNat_of_zero_le hx
 obtain⟨b,rfl⟩:=Int.eq_ofNat_of_zero_le hy
 have h1:b<2 ^ i:=by exact_mod_cast hy2
 have h2:a<2 ^ kd.bits:=by exact_mod_cast hx2
 have h3:a % 2 ^ i=0:=by exact_mod_cast hm
 have h4:=Nat.pow_le_pow_right (n:=2) (by omega) hi
 unfold Zw
 rw[bits_nat h2,bits_nat (by omega)]
 show((a|||b:Nat):Int)=_
 rw[Z5z h1 h3]
 omega
theorem Y6v{kd:IntKind}{x y:Int}(i j:Nat)(hx:0≤x)(hx2:x<((2 ^ kd.bits:Nat):Int))(hg:x % ((2 ^ j:Nat):Int)<((2 ^ i:Nat):Int))(hy:0≤y)(hy2:y<((2 ^ j:Nat):Int))(hm:y % ((2 ^ i:Nat):Int)=0)(hj:j≤kd.bits):Zw kd x y=x+y:=by
 obtain⟨a,rfl⟩:=Int.eq_ofNat_of_zero_le hx
 obtain⟨b,rfl⟩:=Int.eq_ofNat_of_zero_le hy
 have h1:b<2 ^ j:=by exact_mod_cast hy2
 have h2:a<2 ^ kd.bits:=by exact_mod_cast hx2
 have h3:b % 2 ^ i=0:=by exact_mod_cast hm
 have h4:a % 2 ^ j<2 ^ i:=by exact_mod_cast hg
 have h5:=Nat.pow_le_pow_right (n:=2) (by omega) hj
 unfold Zw
 rw[bits_nat h2,bits_nat (by omega)]
 show((a|||b:Nat):Int)=_
 have e:a=2 ^ j*(a / 2 ^ j)|||a % 2 ^ j:=by
  rw[←Nat.two_pow_add_eq_or_of_lt (Nat.mod_lt _ (Nat.two_pow_pos j))]
  exact(Nat.div_add_mod a (2 ^ j)).symm
 have e2:a % 2 ^ j|||b=a % 2 ^ j+b:=by rw[Nat.or_comm,Z5z h4 h3];omega
 have h6:a % 2 ^ j+b<2 ^ j:=by
  rw[←e2]
  exact Nat.or_lt_two_pow (Nat.mod_lt _ (Nat.two_pow_pos j)) h1
 have e3:a|||b=2 ^ j*(a / 2 ^ j)+(a % 2 ^ j+b):=by
  rw[Nat.two_pow_add_eq_or_of_lt h6,←e2,←Nat.or_assoc,←e]
 rw[e3]
 have:=Nat.div_add_mod a (2 ^ j)
 omega
theorem Z7e(kd:IntKind)(x:Int):bitsOf kd x<2 ^ kd.bits:=by
 have h:=Zh3 (k:=kd) (x:=x)
 have:=Int.emod_lt_of_pos x (b:=((2 ^ kd.bits:Nat):Int)) (by have:=Nat.two_pow_pos kd.bits;omega)
 omega
theorem Zg2(z:Int):Za .u32 z=.ofNat (bitsOf .u32 z):=by
 rw[Z1,J3,Zh3];rfl
theorem Zdo(x:Int):bitsOf .u32 (Za .u32 x)=bitsOf .u32 x:=by
 rw[Zg2]
 exact bits_nat (Z7e .u32 x)
theorem Znh{kd:IntKind}(x y:Int):bitsOf kd (Zw kd x y)=bitsOf kd x|||bitsOf kd y:=by
 have lt:∀ z:Int,bitsOf kd z<2 ^ kd.bits:=fun z=>by
  have h:=Zh3 (k:=kd) (x:=z)
  have:=Int.emod_lt_of_pos z (b:=((2 ^ kd.bits:Nat):Int)) (by have:=Nat.two_pow_pos kd.bits;omega)
  omega
 unfold Zw
 exact bits_nat (Nat.or_lt_two_pow (lt x) (lt y))
theorem or0{kd:IntKind}{x:Int}(hx:0≤x)(hx2:x<((2 ^ kd.bits:Nat):Int)):Zw kd x (.ofNat 0)=x:=by
 have h:=Yh8 (kd:=kd) (x:=x) (y:=.ofNat 0) 0 (Int.le_refl _) (by decide) hx hx2 (by show x % 1=0;omega) (Nat.zero_le _)
 rw[h];show x+0=x;omega
theorem Zzl{b0 b1 b2 b3:Int}(h0:0≤b0∧b0<256)(h1:0≤b1∧b1<256)(h2:0≤b2∧b2<256)(h3:0≤b3∧b3<256):Zaa b0 b1 b2 b3=b0+b1*256+b2*65536+b3*16777216:=by
 have p8:((2 ^ 8:Nat):Int)=256:=rfl
 have p16:((2 ^ 16:Nat):Int)=65536:=rfl
 have p24:((2 ^ 24:Nat):Int)=16777216:=rfl
 have p32:((2 ^ IntKind.u32.bits:Nat):Int)=4294967296:=rfl
 unfold Zaa
 simp only[Z1,Za9,p8,p16,p24]
 rw[show b0 % 4294967296=b0 by omega,show b1 % 4294967296*256 % 4294967296=b1*256 by omega,show b2 % 4294967296*65536 % 4294967296=b2*65536 by omega,show b3 % 4294967296*16777216 % 4294967296=b3*16777216 by omega]
 rw[Ze6 (kd:=.u32) (x:=b0) (y:=b1*256) 8 (by omega) (by rw[p8];omega) (by omega) (by rw[p32];omega) (by rw[p8];omega) (by decide)]
 rw[show(b0+b1*256) % 4294967296=b0+b1*256 by omega]
 rw[Ze6 (kd:=.u32) (x:=b0+b1*256) 16 (by omega) (by rw[p16];omega) (by omega) (by rw[p32];omega) (by rw[p16];omega) (by decide)]
 rw[show(b0+b1*256+b2*65536) % 4294967296=b0+b1*256+b2*65536 by omega]
 rw[Ze6 (kd:=.u32) (x:=b0+b1*256+b2*65536) 24 (by omega) (by rw[p24];omega) (by omega) (by rw[p32];omega) (by rw[p24];omega) (by decide)]
 omega
theorem Yms{w:Int}(h:0≤w∧w<4294967296):Zaa (Za .u8 w) (Za .u8 (Zc w 8)) (Za .u8 (Zc w 16)) (Za .u8 (Zc w 24))=w:=by
 have p8:((2 ^ 8:Nat):Int)=256:=rfl
 have p16:((2 ^ 16:Nat):Int)=65536:=rfl
 have p24:((2 ^ 24:Nat):Int)=16777216:=rfl
 simp only[Zfq,Kx,p8,p16,p24]
 rw[Zzl ⟨by omega,by omega⟩ ⟨by omega,by omega⟩ ⟨by omega,by omega⟩ ⟨by omega,by omega⟩]
 omega
theorem Zp7{kd:IntKind}(x y:Int):bitsOf kd (Ze kd x y)=bitsOf kd x&&&bitsOf kd y:=by
 unfold Ze
 exact bits_nat (Nat.and_lt_two_pow _ (Z7e kd y))
theorem Z0l(n t:Nat):bitsOf .u32 (Zf (.ofNat n) t)=(n<<<t) % 2 ^ 32:=by
 have h:=Zh3 (k:=.u32) (x:=Zf (.ofNat n) t)
 have e:Zf (.ofNat n) t=((n*2 ^ t:Nat):Int):=by rw[Za9,J3,Int.natCast_mul]
 rw[e] at h ⊢
 have e2:((2 ^ IntKind.u32.bits:Nat):Int)=((2 ^ 32:Nat):Int):=rfl
 rw[e2,←Int.natCast_emod] at h
 rw[Nat.shiftLeft_eq]
 exact Int.ofNat.inj h
end Go.Vai
end
