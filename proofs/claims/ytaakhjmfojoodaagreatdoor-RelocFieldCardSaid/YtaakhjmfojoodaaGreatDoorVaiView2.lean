/- A call that reads one row that it is handed and answers a plain value: by a run from known memory, in whatever memory. -/
import Derived.Test.YtaakhjmfojoodaaGreatDoorVaiH
section
namespace Go.Vai
noncomputable section
variable {P:Program} {gl:List (Nat×List AV)} {E:Env}
theorem Z0e{f:FuncId}{args:List AV}{cargs:List Value}{u v1:AV}{M:List MEnt}{H H1:AHeap}{w:World}{os:List AObj}{ex:List MEnt}{n:Nat}(hE:∀ w,Z4 gl w→EnvOk E P (Kept gl w))(hf:(E.fn f).isSome=true)(hw:Z4 gl w)(hr:HRel M H w)
  (hl:ex.length=os.length) (hro:∀ o∈os,o.isRo=true) (ho:∀(j:Nat) m o,ex[j]?=some m→os[j]?=some o→Jc [] m w o) (ha:Zp (V9 E.ng 0++ex) args cargs)
  (hu:rnV 0 [] v1=some u) (h:run E n (.call f args (Xm E.ng os))=some (.call (.ret v1 H1))):Jp P f cargs M H w (.ret u H):=by
 obtain⟨fn,hfn⟩:=Option.isSome_iff_exists.1 hf
 have hr0:=Zgr (ng:=E.ng) hl hro ho
 have kp:Kept gl w (V9 E.ng 0++ex) (Xm E.ng os) w:=⟨hw,Keeps.refl w,fun b _ ⟨id,o,m,e,r,_⟩=>by
  obtain⟨j,_,hj⟩:=Zax e
  rw[hro o (List.mem_of_getElem? hj)] at r;cases r⟩
 have key:=J0 (hE w hw) hfn (Zgo (hE w hw) h ⟨hr0,(Zdp E).mono (List.prefix_append _ _),kp⟩ ha)
 refine .inr ⟨key.1,CallsIn.mono key.2 ?_⟩
 intro e w' hpost
 cases e with
 |outgrown=>exact hpost.elim
 |panicked ch=>obtain⟨_,_,_,_,e,_⟩:=hpost;cases e
 |returned cv=>
  obtain⟨v2,H2,M',e,x1,x2,x3⟩:=hpost
  cases e
  have hv:Zm M u cv:=Kp (b:=0) (keep:=[]) (fun k i hk=>by simp at hk) v1 u cv hu x3
  have kk:=((Zz hw).ext _ _ _ _ _ _ kp x1).2.1
  exact⟨u,H,M,rfl,⟨List.prefix_refl _,kk.size,kk.os,kk.tape,kk.output,fun b hb hn=>⟨kk.old b hb,hn⟩,fun _ _ hn=>hn⟩,⟨hr.len,fun id o e=>by
   obtain⟨m,hm,r⟩:=hr.obj id o e
   exact⟨m,hm,r.carry (List.prefix_refl _) (kk.old _ r.lt)⟩,hr.inj⟩,hv⟩
theorem Ynr{f:FuncId}{args:List AV}{cargs:List Value}{v1:AV}{H1:AHeap}{w:World}{os:List AObj}{ex:List MEnt}{n:Nat}(hE:∀ w,Z4 gl w→EnvOk E P (Kept gl w))(hf:(E.fn f).isSome=true)(hw:Z4 gl w)
  (hl:ex.length=os.length) (hro:∀ o∈os,o.isRo=true) (ho:∀(j:Nat) m o,ex[j]?=some m→os[j]?=some o→Jc [] m w o) (ha:Zp (V9 E.ng 0++ex) args cargs)
  (hu:rnV 0 [] v1=some (.bool true)) (h:run E n (.call f args (Xm E.ng os))=some (.call (.ret v1 H1))):Calls P f cargs.toArray w fun e w'=>e=.returned (.bool true)∧Keeps w w':=by
 obtain⟨fn,hfn⟩:=Option.isSome_iff_exists.1 hf
 have hr0:=Zgr (ng:=E.ng) hl hro ho
 have kp:Kept gl w (V9 E.ng 0++ex) (Xm E.ng os) w:=⟨hw,Keeps.refl w,fun b _ ⟨id,o,m,e,r,_⟩=>by
  obtain⟨j,_,hj⟩:=Zax e
  rw[hro o (List.mem_of_getElem? hj)] at r;cases r⟩
 have key:=J0 (hE w hw) hfn (Zgo (hE w hw) h ⟨hr0,(Zdp E).mono (List.prefix_append _ _),kp⟩ ha)
 refine Calls.mono (callsIn_wide.1 key.2) ?_
 intro e w' hpost
 cases e with
 |outgrown=>exact hpost.elim
 |panicked ch=>obtain⟨_,_,_,_,e,_⟩:=hpost;cases e
 |returned cv=>
  obtain⟨v2,H2,M',e,x1,x2,x3⟩:=hpost
  cases e
  have hv:Zm M' (.bool true) cv:=Kp (b:=0) (keep:=[]) (fun k i hk=>by simp at hk) v1 (.bool true) cv hu x3
  simp only[Zm] at hv
  exact⟨by rw[hv],((Zz hw).ext _ _ _ _ _ _ kp x1).2.1⟩
end
end Go.Vai
end
section
namespace Go.Vai
noncomputable section
variable {P:Program} {gl:List (Nat×List AV)} {E:Env}
theorem Zzb{f:FuncId}{args:List AV}{cargs:List Value}{u v1:AV}{M:List MEnt}{H H1:AHeap}{w:World}{os new:List AObj}{ex:List MEnt}{n:Nat}{keep:List Nat}(hE:∀ w,Z4 gl w→EnvOk E P (Kept gl w))(hf:(E.fn f).isSome=true)(hw:Z4 gl w)(hr:HRel M H w)
  (hl:ex.length=os.length) (hro:∀ o∈os,o.isRo=true) (ho:∀(j:Nat) m o,ex[j]?=some m→os[j]?=some o→Jc [] m w o) (ha:Zp (V9 E.ng 0++ex) args cargs)
  (hnd:keep.Nodup) (hlen:new.length=keep.length) (hob:∀(j:Nat)(x:AObj),new[j]?=some x→∃ i o,keep[j]?=some i∧H1.get i=some o∧Zcr H.next keep o x∧o.isRo=false)
  (hu:rnV H.next keep v1=some u) (h:run E n (.call f args (Xm E.ng os))=some (.call (.ret v1 H1))):Jp P f cargs M H w (.ret u (news H new)):=by
 obtain⟨fn,hfn⟩:=Option.isSome_iff_exists.1 hf
 have hr0:=Zgr (ng:=E.ng) hl hro ho
 have kp:Kept gl w (V9 E.ng 0++ex) (Xm E.ng os) w:=⟨hw,Keeps.refl w,fun b _ ⟨id,o,m,e,r,_⟩=>by
  obtain⟨j,_,hj⟩:=Zax e
  rw[hro o (List.mem_of_getElem? hj)] at r;cases r⟩
 have key:=J0 (hE w hw) hfn (Zgo (hE w hw) h ⟨hr0,(Zdp E).mono (List.prefix_append _ _),kp⟩ ha)
 refine .inr ⟨key.1,CallsIn.mono key.2 ?_⟩
 intro e w' hpost
 cases e with
 |outgrown=>exact hpost.elim
 |panicked ch=>obtain⟨_,_,_,_,e,_⟩:=hpost;cases e
 |returned cv=>
  obtain⟨v2,H2,M',e,x1,x2,x3⟩:=hpost
  cases e
  exact Zou hr x2 ((Zz hw).ext _ _ _ _ _ _ kp x1) hnd hlen hob x3 hu
theorem Yd6{b:Nat}{keep:List Nat}{n:Nat}{t:Tr AV}{e:TypeId}{g:Option Nat}{fz:Nat}{ro mk:Bool}(h:Qq t):Zcr b keep (.cells n t e g fz ro mk) (.cells n t e g fz ro mk):=⟨t,rfl,fun i y hy=>⟨y,hy,h i y hy b keep⟩⟩
def Y66(i:Nat):TRes→Ql→Option (AV×Option AObj)
 |.call (.ret v H),_=>some (v,H.get i)
 |_,_=>none
theorem Zua{vs:List AV}{o:Nat}(h:o+vs.length<2 ^ 47):∀(n k:Nat),k+n≤vs.length→(Tr.nil.putAll o vs).getAll (o+k) n=some ((vs.drop k).take n)
 |0,k,_=>by simp[Tr.getAll_zero]
 |n+1,k,hk=>by
  have e:(Tr.nil.putAll o vs).get (o+k)=some (vs[k]'(by omega)):=by
   rw[Zgc _ _ _ _ (by omega),if_pos (by omega),show o+k - o=k by omega,List.getElem?_eq_getElem (by omega)]
  rw[Tr.getAll_succ,e]
  simp only[]
  rw[Nat.add_assoc,Zua h n (k+1) (by omega)]
  simp only[Option.some.injEq]
  rw[List.drop_eq_getElem_cons (by omega:k<vs.length),List.take_succ_cons]
theorem Zep{T:Tr AV}:∀{n o:Nat}{l:List AV},T.getAll o n=some l→l.length=n
 |0,o,l,h=>by rw[Tr.getAll_zero] at h;cases h;rfl
 |n+1,o,l,h=>by
  rw[Tr.getAll_succ] at h
  cases h1:T.get o with
  |none=>rw[h1] at h;cases h
  |some v=>
   rw[h1] at h
   cases h2:T.getAll (o+1) n with
   |none=>rw[h2] at h;cases h
   |some m=>
    rw[h2] at h
    cases h
    rw[List.length_cons,Zep h2]
theorem Zee{T:Tr AV}:∀{n o:Nat}{l:List AV},T.getAll o n=some l→∀ j,j<n→T.get (o+j)=l[j]?
 |0,o,l,h,j,hj=>by omega
 |n+1,o,l,h,j,hj=>by
  rw[Tr.getAll_succ] at h
  cases h1:T.get o with
  |none=>rw[h1] at h;cases h
  |some v=>
   rw[h1] at h
   cases h2:T.getAll (o+1) n with
   |none=>rw[h2] at h;cases h
   |some m=>
    rw[h2] at h
    cases h
    cases j with
    |zero=>rw[Nat.add_zero,h1];rfl
    |succ j=>
     have:=Zee h2 j (by omega)
     rw[show o+(j+1)=o+1+j by omega,this];rfl
theorem Zmt:∀{l:List AV},Wq l=true→∀ v∈l,∃ x,v=.int .u8 x
 |[],_,v,hv=>by cases hv
 |a::l,h,v,hv=>by
  cases a <;> try (cases h;done)
  rename_i kd n
  cases kd <;> try (cases h;done)
  rcases List.mem_cons.1 hv with rfl|hv
  ·exact⟨n,rfl⟩
  ·refine Zmt (l:=l) ?_ v hv
   have h2:(Q5 (.int .u8 n::l)).isSome=true:=h
   unfold Wq
   simp only[Q5] at h2
   cases e:Q5 l with
   |none=>rw[e] at h2;cases h2
   |some m=>rfl
def Zp4(H:AHeap)(o n e:Nat):Option AObj→Option (AV×AHeap)
 |some (.cells _ T _ _ _ _ _)=>bif Nat.blt 0 n&&(Nat.blt n 1000000&&(Nat.blt (o+n) 140737488355328&&(Xc T o n&&Wq (Z5 T o n)))) then some (.sl H.next 0 n none,news H [.cells n (Tr.nil.putAll 0 (Z5 T o n)) e (some 1) 0 false false]) else none
 |_=>none
def K0(f e:Nat):Sm:=fun g args H=>match args with
 |[.sl id o n _]=>bif Nat.beq g f then Zp4 H o n e (H.get id) else none
 |_=>none
def Zvu{α:Type}(e:Nat)(args:List AV)(H:AHeap)(k:AV→AHeap→Option α):Option α:=match args with
 |[.sl id o n _]=>Ziw (H.get id) fun T=>bc (Nat.blt 0 n) (bc (Nat.blt n 1000000) (bc (Nat.blt (Nat.add o n) 140737488355328) (bc (Xc T o n) (bc (Wq (Z5 T o n)) (k (.sl H.next 0 n none) (news H [.cells n (Tr.nil.putAll 0 (Z5 T o n)) e (some 1) 0 false false])) none) none) none) none) none
 |_=>none
theorem Zmr{α:Type}{f e:Nat}{args:List AV}{H:AHeap}{k:AV→AHeap→Option α}{r:α}(h:Zvu e args H k=some r):∃ v H',K0 f e f args H=some (v,H')∧k v H'=some r:=by
 unfold Zvu at h
 split at h
 case h_2=>cases h
 rename_i id o n _
 unfold Ziw at h
 split at h
 case h_2=>cases h
 rename_i m T _ _ _ _ _ hg
 obtain⟨h1,h⟩:=Zo h
 obtain⟨h2,h⟩:=Zo h
 obtain⟨h3,h⟩:=Zo h
 obtain⟨h4,h⟩:=Zo h
 obtain⟨h5,h⟩:=Zo h
 refine⟨_,_,?_,h⟩
 have h3':Nat.blt (o+n) 140737488355328=true:=h3
 unfold K0 Zp4
 simp only[Nat.beq_refl,cond_true,hg,h1,h2,h3',h4,h5,Bool.and_self]
theorem Yk6{f e:Nat}(hE:∀ w,Z4 gl w→EnvOk E P (Kept gl w))(hf:(E.fn f).isSome=true)
  (ht:∀(o n c n0:Nat)(T:Tr AV),0<n→n<1000000→Xc T o n=true→Yr E 100 (.call f [.sl E.ng o n (some c)] (Xm E.ng [.cells n0 T 0 none 0 true false])) [] (Y66 (E.ng+2))=some (.sl (E.ng+2) 0 n none,some (.cells n (Tr.nil.putAll 0 (Z5 T o n)) e (some 1) 0 false false))):Zr P gl (K0 f e):=by
 intro g args H v H' M w cargs hs hw hr ha
 unfold K0 at hs
 split at hs
 case h_2=>cases hs
 rename_i id o n _
 cases hb:Nat.beq g f with
 |false=>rw[hb] at hs;cases hs
 |true=>
  rw[hb] at hs
  rw[Nat.beq_eq] at hb
  subst hb
  simp only[cond_true] at hs
  unfold Zp4 at hs
  split at hs
  case h_2=>cases hs
  rename_i m T e2 g2 fz ro mk hg
  rw[Bool.cond_eq_ite] at hs
  split at hs
  case isFalse=>cases hs
  rename_i hc
  simp only[Option.some.injEq,Prod.mk.injEq] at hs
  obtain⟨rfl,rfl⟩:=hs
  simp only[Bool.and_eq_true,Nat.blt_eq] at hc
  obtain⟨h1,h2,h3,h4,h5⟩:=hc
  have hp:(2:Nat) ^ 47=140737488355328:=by decide
  have hall:=Zje h4
  have hlen:(Z5 T o n).length=n:=Zep hall
  have hby:=Zmt h5
  generalize hvs:Z5 T o n=vs at hall hlen hby ⊢
  let T2:Tr AV:=Tr.nil.putAll o vs
  have hT:∀ i v,T2.get i=some v→T.get i=some v∧Plain v:=by
   intro i v hv
   rcases Tr.get_putAll _ hv with⟨q,rfl,hq⟩|⟨_,hu⟩
   ·have hq2:q<n:=by rw[←hlen];exact(List.getElem?_eq_some_iff.1 hq).1
    refine⟨by rw[Zee hall q hq2];exact hq,?_⟩
    obtain⟨x,rfl⟩:=hby v (List.mem_of_getElem? hq)
    exact Q2 _ _
   ·simp[Tr.get_nil] at hu
  have hall2:T2.getAll o n=some vs:=by
   have:=Zua (vs:=vs) (o:=o) (by rw[hlen,hp];exact h3) n 0 (by omega)
   rw[Nat.add_zero] at this
   rw[this,List.drop_zero,List.take_of_length_le (by omega)]
  have hT2:Xc T2 o n=true:=by unfold Xc;rw[hall2];rfl
  have hG2:Z5 T2 o n=vs:=by unfold Z5;rw[hall2];rfl
  obtain⟨mm,hm,hrel⟩:=hr.obj id _ hg
  have hsub:=Zno hrel hT 0
  match cargs,ha with
  |[cv0],⟨r0,_⟩=>
   obtain⟨m',c',hm',rfl,_,_⟩:=r0
   rw[hm] at hm';cases hm'
   have hx:(V9 E.ng 0++[mm])[E.ng]?=some mm:=by
    rw[List.getElem?_append_right (by rw[Wo];omega),Wo,Nat.sub_self];rfl
   have key:=ht o n c' m T2 h1 h2 hT2
   rw[hG2] at key
   obtain⟨x,o',hrun,hk⟩:=Yjo E 100 _ _ _ _ key
   cases x with
   |code a b c=>cases hk
   |dcall a=>cases hk
   |call c=>
    cases c with
    |pan v H=>cases hk
    |ret v1 H1=>
     have hk:some (v1,H1.get (E.ng+2))=some (AV.sl (E.ng+2) 0 n none,some (AObj.cells n (Tr.nil.putAll 0 vs) e (some 1) 0 false false)):=hk
     simp only[Option.some.injEq,Prod.mk.injEq] at hk
     obtain⟨rfl,hk2⟩:=hk
     refine Zzb (ex:=[mm]) (os:=[.cells m T2 0 none 0 true false]) (args:=[.sl E.ng o n (some c')]) (keep:=[E.ng+2]) hE hf hw hr rfl (fun o ho=>by cases List.mem_singleton.1 ho;rfl) (fun j m2 o2 e1 e2=>?_) ⟨⟨mm,c',hx,rfl,(fun d e=>by cases e;rfl),(fun e=>by cases e)⟩,trivial⟩
      (by simp) rfl (fun j x hx=>?_) ?_ hrun
     ·match j,e1,e2 with
      |0,e1,e2=>cases e1;cases e2;exact hsub
      |j+1,e1,e2=>simp at e1
     ·match j,hx with
      |0,hx=>
       cases hx
       refine⟨E.ng+2,_,rfl,hk2,Yd6 fun i v hv=>?_,rfl⟩
       rcases Tr.get_putAll _ hv with⟨q,rfl,hq⟩|⟨_,hu⟩
       ·obtain⟨x,rfl⟩:=hby v (List.mem_of_getElem? hq)
        exact Q2 _ _
       ·simp[Tr.get_nil] at hu
      |j+1,hx=>simp at hx
     ·simp[rnV,Zd8]
def Zpr{α:Type}(u:Int→AV)(args:List AV)(H:AHeap)(k:AV→AHeap→Option α):Option α:=match args with
 |[.sl id o l _,.int .i64 (.ofNat a)]=>Ziw (H.get id) fun T=>bc (Nat.ble (Nat.add a 4) l) (bc (Nat.blt l 4611686018427387904) (bc (Nat.blt (Nat.add o (Nat.add a 3)) 140737488355328)
   (bc (Vs .u8 (T.get (Nat.add o a))) (bc (Vs .u8 (T.get (Nat.add o (Nat.add a 1)))) (bc (Vs .u8 (T.get (Nat.add o (Nat.add a 2)))) (bc (Vs .u8 (T.get (Nat.add o (Nat.add a 3))))
    (k (u (Zaa (Zl (T.get (Nat.add o a))) (Zl (T.get (Nat.add o (Nat.add a 1)))) (Zl (T.get (Nat.add o (Nat.add a 2)))) (Zl (T.get (Nat.add o (Nat.add a 3)))))) H) none) none) none) none) none) none) none
 |_=>none
theorem Zdq{kd:IntKind}{x:Option AV}(h:Vs kd x=true):x=some (.int kd (Zl x)):=by
 unfold Vs at h
 split at h
 ·rename_i j n
  rw[W6] at h
  subst h;rfl
 ·cases h
theorem Zcl{α:Type}{f:Nat}{u:Int→AV}{args:List AV}{H:AHeap}{k:AV→AHeap→Option α}{r:α}(h:Zpr u args H k=some r):∃ v H',Ze5 f u f args H=some (v,H')∧k v H'=some r:=by
 unfold Zpr at h
 split at h
 case h_2=>cases h
 rename_i id o l _ a
 unfold Ziw at h
 split at h
 case h_2=>cases h
 rename_i m T _ _ _ _ _ hg
 obtain⟨h1,h⟩:=Zo h
 obtain⟨h2,h⟩:=Zo h
 obtain⟨h3,h⟩:=Zo h
 obtain⟨g0,h⟩:=Zo h
 obtain⟨g1,h⟩:=Zo h
 obtain⟨g2,h⟩:=Zo h
 obtain⟨g3,h⟩:=Zo h
 refine⟨_,_,?_,h⟩
 have h1':Nat.ble (a+4) l=true:=h1
 have h3':Nat.blt (o+(a+3)) 140737488355328=true:=h3
 have e0:T.get (o+a)=some (.int .u8 (Zl (T.get (Nat.add o a)))):=Zdq g0
 have e1:T.get (o+(a+1))=some (.int .u8 (Zl (T.get (Nat.add o (Nat.add a 1))))):=Zdq g1
 have e2:T.get (o+(a+2))=some (.int .u8 (Zl (T.get (Nat.add o (Nat.add a 2))))):=Zdq g2
 have e3:T.get (o+(a+3))=some (.int .u8 (Zl (T.get (Nat.add o (Nat.add a 3))))):=Zdq g3
 unfold Ze5 Z9f
 simp only[Nat.beq_refl,cond_true,h1',h2,h3',hg,Bool.and_self]
 rw[e0,e1,e2,e3]
 rfl
end
end Go.Vai
end
section
namespace Go.Vai
noncomputable section
abbrev Zcp(nm:List UInt8)(A B C D I:Int):AV:=.agg [.str nm,.int .i64 A,.int .i64 B,.int .i64 C,.int .i64 D,.int .i64 I]
def u8s:List (Option AV)→Option (List Int)
 |[]=>some []
 |some (.int .u8 x)::r=>Option.rec (motive:=fun _=>Option (List Int)) none (fun l=>some (x::l)) (u8s r)
 |_::_=>none
def Z5v(e:Nat):Option AObj→Option (List Int)
 |some (.cells n t e' none 0 false false)=>bif Nat.beq e e' then u8s (Zqy t 0 n) else none
 |_=>none
def Zbo(e:Nat):TRes→Ql→Option (Int×Option (List Int))
 |.call (.ret (.tup [.nils,.int .i64 x]) _),_=>some (x,none)
 |.call (.ret (.tup [.sl id 0 n (some c),.int .i64 x]) H),_=>Option.rec (motive:=fun _=>Option (Int×Option (List Int))) none (fun l=>bif Nat.beq n l.length&&Nat.beq c l.length then some (x,some l) else none) (Z5v e (H.get id))
 |_,_=>none
abbrev u8L(l:List Int):List AV:=l.map fun x=>.int .u8 x
theorem Yiq:∀{l:List (Option AV)}{xs:List Int},u8s l=some xs→l=(u8L xs).map some
 |[],xs,h=>by cases h;rfl
 |a::r,xs,h=>by
  unfold u8s at h
  split at h
  ·cases ‹a::r=[]›
  ·rename_i x r2 e
   cases e
   cases hr:u8s r with
   |none=>rw[hr] at h;cases h
   |some l=>
    rw[hr] at h
    cases h
    rw[Yiq hr];rfl
  ·cases h
theorem Zmw:∀(n:Nat)(t:Tr AV)(k:Nat),(Zqy t k n).length=n
 |0,_,_=>rfl
 |n+1,t,k=>by
  show(t.get k::Zqy t (k+1) n).length=n+1
  rw[List.length_cons,Zmw n t (k+1)]
theorem Z1q:∀(n:Nat)(t:Tr AV)(k j:Nat),j<n→(Zqy t k n)[j]?=some (t.get (k+j))
 |0,_,_,j,h=>by omega
 |n+1,t,k,0,_=>rfl
 |n+1,t,k,j+1,h=>by
  show(t.get k::Zqy t (k+1) n)[j+1]?=_
  rw[List.getElem?_cons_succ,Z1q n t (k+1) j (by omega),show k+1+j=k+(j+1) by omega]
section
variable {P:Program} {gl:List (Nat×List AV)} {E:Env}
theorem Zt5{f e:Nat}{args:List AV}{n:Nat}{s:Smk (Int×Option (List Int))}{o:Ql}{x:Int}{c:Option (List Int)}(hE:∀ w,Z4 gl w→EnvOk E P (Kept gl w))(hgl:(gl.all fun x=>Nat.blt x.1 E.ng)=true)(hf:(E.fn f).isSome=true)(hs:Qp E s)
  (hp:∀ v∈args,Plain v) (h:W2 E s Qe n (.call f args (Yc E.ng gl)) o (Zbo e)=some (x,c)) {M:List MEnt} {H:AHeap} {w:World} {cargs:List Value} (hw:Z4 gl w) (hr:HRel M H w) (ha:Zp M args cargs) :
  (c=none∧Jp P f cargs M H w (.ret (.tup [.nils,.int .i64 x]) H))∨∃ l,c=some l∧Jp P f cargs M H w (.ret (.tup [.sl H.next 0 l.length (some l.length),.int .i64 x]) (news H [.cells l.length (Tr.nil.putAll 0 (u8L l)) e none 0 false false])):=by
 obtain⟨y,o',hrun,hk⟩:=Zb4 E hs Qe n _ _ _ _ h
 have hb:=fun v1 H1 (e1:y=.call (.ret v1 H1))=>Zbk hE hgl hf (Zp.anyPlain hp ha _) (by rw[e1] at hrun;exact hrun)
 unfold Zbo at hk
 split at hk
 ·simp only[Option.some.injEq,Prod.mk.injEq] at hk
  obtain⟨rfl,rfl⟩:=hk
  refine .inl ⟨rfl,?_⟩
  refine Zgh.calls (os:=[]) (hb _ _ rfl) hw hr ?_
  rintro v2 H2 ⟨rfl,rfl⟩
  exact⟨[],List.nodup_nil,rfl,rfl,fun j x hx=>by simp at hx⟩
 ·rename_i id n2 c2 x2 H1
  cases hbo:Z5v e (H1.get id) with
  |none=>rw[hbo] at hk;cases hk
  |some l=>
   rw[hbo] at hk
   have hk2:(bif Nat.beq n2 l.length&&Nat.beq c2 l.length then some (x2,some l) else none)=some (x,c):=hk
   clear hk
   rw[Bool.cond_eq_ite] at hk2
   split at hk2
   case isFalse=>cases hk2
   rename_i hnl
   rw[Bool.and_eq_true,Nat.beq_eq,Nat.beq_eq] at hnl
   obtain⟨rfl,rfl⟩:=hnl
   simp only[Option.some.injEq,Prod.mk.injEq] at hk2
   obtain⟨rfl,rfl⟩:=hk2
   refine .inr ⟨l,rfl,?_⟩
   unfold Z5v at hbo
   split at hbo
   case h_2=>cases hbo
   rename_i m t e' hg
   rw[Bool.cond_eq_ite] at hbo
   split at hbo
   case isFalse=>cases hbo
   rename_i he
   rw[Nat.beq_eq] at he
   subst he
   have hl:=Yiq hbo
   have hm:m=l.length:=by
    have:=congrArg List.length hl
    rw[Zmw] at this
    simpa using this
   subst hm
   refine Zgh.calls (hb _ _ rfl) hw hr ?_
   rintro v2 H2 ⟨rfl,rfl⟩
   refine⟨[id],by simp,rfl,by simp[rnV,Zds,Zd8],fun j u hu=>?_⟩
   match j,hu with
   |0,hu=>
    cases hu
    refine⟨id,_,rfl,hg,⟨Tr.nil.putAll 0 (u8L l),rfl,fun i y hy=>?_⟩,rfl⟩
    rcases Tr.get_putAll _ hy with⟨q,rfl,hq⟩|⟨_,hu⟩
    ·have hq2:q<l.length:=by have:=(List.getElem?_eq_some_iff.1 hq).1;simpa using this
     have h3:=Z1q l.length t 0 q hq2
     rw[hl,List.getElem?_map,hq] at h3
     refine⟨y,?_,?_⟩
     ·simpa using h3.symm
     ·rw[List.getElem?_map] at hq
      obtain⟨z,hz,rfl⟩:=Option.map_eq_some_iff.1 hq
      rfl
    ·simp[Tr.get_nil] at hu
   |j+1,hu=>simp at hu
 ·cases hk
end
theorem Ydk{P:Program}{gl:List (Nat×List AV)}{T:Nat→List AV→Option AV}(h:∀ f args v,T f args=some v→∃ s,Zr P gl s∧∀ H,s f args H=some (v,H)):Zr P gl (Yo T):=by
 intro f args H v H' M w cargs hs hw hr ha
 unfold Yo at hs
 cases hT:T f args with
 |none=>rw[hT] at hs;cases hs
 |some u=>
  rw[hT] at hs
  obtain⟨s,h1,h2⟩:=h f args u hT
  have e:some (u,H)=some (v,H'):=hs
  exact h1 f args H v H' M w cargs ((h2 H).trans e) hw hr ha
def Jn(f e:Nat)(bs:Int→List Int)(G:List UInt8→Bool)(EE EW:List UInt8→Int→Int→Int→Int→Int→Int):Sm:=fun g args H=>match args with
 |[.agg [.str nm,.int .i64 A,.int .i64 B,.int .i64 C,.int .i64 D,.int .i64 I]]=>bif Nat.beq g f&&G nm then(bif Zd (EE nm A B C D I) (.ofNat 0) then some (.tup [.sl H.next 0 (bs (EW nm A B C D I)).length (some (bs (EW nm A B C D I)).length),.int .i64 (.ofNat 0)],news H [.cells (bs (EW nm A B C D I)).length (Tr.nil.putAll 0 (u8L (bs (EW nm A B C D I)))) e none 0 false false]) else some (.tup [.nils,.int .i64 (EE nm A B C D I)],H)) else none
 |_=>none
def b4(w:Int):List Int:=[Za .u8 w,Za .u8 (Zc w 8),Za .u8 (Zc w 16),Za .u8 (Zc w 24)]
def b2(w:Int):List Int:=[Za .u8 w,Za .u8 (Zc w 8)]
def Zf2{α:Type}(e:Nat)(bs:Int→List Int)(G:List UInt8→Bool)(EE EW:List UInt8→Int→Int→Int→Int→Int→Int)(args:List AV)(H:AHeap)(k:AV→AHeap→Option α):Option α:=match args with
 |[.agg [.str nm,.int .i64 A,.int .i64 B,.int .i64 C,.int .i64 D,.int .i64 I]]=>bc (G nm) (bc (Zd (EE nm A B C D I) (.ofNat 0)) (k (.tup [.sl H.next 0 (bs (EW nm A B C D I)).length (some (bs (EW nm A B C D I)).length),.int .i64 (.ofNat 0)]) (news H [.cells (bs (EW nm A B C D I)).length (Tr.nil.putAll 0 (u8L (bs (EW nm A B C D I)))) e none 0 false false])) none) none
 |_=>none
def Zf6{α:Type}(G:List UInt8→Bool)(EE:List UInt8→Int→Int→Int→Int→Int→Int)(args:List AV)(H:AHeap)(k:AV→AHeap→Option α):Option α:=match args with
 |[.agg [.str nm,.int .i64 A,.int .i64 B,.int .i64 C,.int .i64 D,.int .i64 I]]=>bc (G nm) (bc (!(Zd (EE nm A B C D I) (.ofNat 0))) (k (.tup [.nils,.int .i64 (EE nm A B C D I)]) H) none) none
 |_=>none
section
variable {α:Type} {f e:Nat} {bs:Int→List Int} {G:List UInt8→Bool} {EE EW:List UInt8→Int→Int→Int→Int→Int→Int} {args:List AV} {H:AHeap} {k:AV→AHeap→Option α} {r:α}
theorem Km(h:Zf2 e bs G EE EW args H k=some r):∃ v H',Jn f e bs G EE EW f args H=some (v,H')∧k v H'=some r:=by
 unfold Zf2 at h
 split at h
 case h_2=>cases h
 obtain⟨h1,h⟩:=Zo h
 obtain⟨h2,h⟩:=Zo h
 exact⟨_,_,by simp only[Jn,Nat.beq_refl,h1,h2,Bool.and_self,cond_true],h⟩
theorem Kl(h:Zf6 G EE args H k=some r):∃ v H',Jn f e bs G EE EW f args H=some (v,H')∧k v H'=some r:=by
 unfold Zf6 at h
 split at h
 case h_2=>cases h
 obtain⟨h1,h⟩:=Zo h
 obtain⟨h2,h⟩:=Zo h
 rw[Bool.not_eq_true'] at h2
 exact⟨_,_,by simp only[Jn,Nat.beq_refl,h1,h2,Bool.and_self,cond_true,cond_false],h⟩
end
theorem Z4j{P:Program}{gl:List (Nat×List AV)}{f e:Nat}{bs:Int→List Int}{G:List UInt8→Bool}{EE EW:List UInt8→Int→Int→Int→Int→Int→Int}
  (h:∀ nm A B C D I,G nm=true→∃(E:Env)(n:Nat)(s:Smk (Int×Option (List Int)))(o:Ql),(∀ w,Z4 gl w→EnvOk E P (Kept gl w))∧(gl.all fun x=>Nat.blt x.1 E.ng)=true∧(E.fn f).isSome=true∧Qp E s ∧
   W2 E s Qe n (.call f [Zcp nm A B C D I] (Yc E.ng gl)) o (Zbo e)=bc (Zd (EE nm A B C D I) (.ofNat 0)) (some (.ofNat 0,some (bs (EW nm A B C D I)))) (some (EE nm A B C D I,none))):Zr P gl (Jn f e bs G EE EW):=by
 intro g args H v H' M w cargs hs hw hr ha
 unfold Jn at hs
 split at hs
 case h_2=>cases hs
 rename_i nm A B C D I
 cases hb:Nat.beq g f&&G nm with
 |false=>rw[hb] at hs;cases hs
 |true=>
  rw[hb] at hs
  simp only[cond_true] at hs
  rw[Bool.and_eq_true,Nat.beq_eq] at hb
  obtain⟨rfl,hG⟩:=hb
  obtain⟨E,n,s,o,hE,hgl,hf,hsk,key⟩:=h nm A B C D I hG
  cases he:Zd (EE nm A B C D I) (.ofNat 0) with
  |true=>
   rw[he] at hs key
   simp only[cond_true,Option.some.injEq,Prod.mk.injEq] at hs
   obtain⟨rfl,rfl⟩:=hs
   rcases Zt5 hE hgl hf hsk (Zh rfl) key hw hr ha with⟨h1,_⟩|⟨l,h1,h2⟩
   ·cases h1
   ·cases h1;exact h2
  |false=>
   rw[he] at hs key
   simp only[cond_false,Option.some.injEq,Prod.mk.injEq] at hs
   obtain⟨rfl,rfl⟩:=hs
   rcases Zt5 hE hgl hf hsk (Zh rfl) key hw hr ha with⟨_,h1⟩|⟨l,h1,h2⟩
   ·exact h1
   ·cases h1
end
end Go.Vai
end
section
namespace Go.Vai
section
variable {P:Program} {gl:List (Nat×List AV)}
def Z33:AV→AV→Bool
 |.agg a,.agg b=>Jk a b
 |x,y=>Zgs x y
theorem Z5e{x y:AV}(h:Z33 x y=true):x=y:=by
 unfold Z33 at h
 split at h
 ·rw[Zby h]
 ·exact Zms h
def Zel:List AV→List AV→Bool
 |[],[]=>true
 |a::l,b::m=>Z33 a b&&Zel l m
 |_,_=>false
theorem Zm0:∀{l m:List AV},Zel l m=true→l=m
 |[],[],_=>rfl
 |[],_::_,h=>by simp[Zel] at h
 |_::_,[],h=>by simp[Zel] at h
 |a::l,b::m,h=>by
  simp only[Zel,Bool.and_eq_true] at h
  rw[Z5e h.1,Zm0 h.2]
noncomputable def Zk (c : Done) : Sm := fun f args H => bif Nat.beq f c.f && Zel c.args args then (match rnV H.next c.keep c.v with
  | some u => some (u, news H (c.os.map (mkO H.next c.keep)))
  | none => none) else none
theorem Z4z{E:Env}{c:Done}{n:Nat}(hE:∀ w,Z4 gl w→EnvOk E P (Kept gl w))(hgl:(gl.all fun x=>Nat.blt x.1 E.ng)=true)(hf:(E.fn c.f).isSome=true)
  (hp:∀ v∈c.args,Plain v) (h:pack c.keep (run E n (.call c.f c.args (Yc E.ng gl)))=some (c.v,c.os.map some)) (hk:c.keep.Nodup) (hro:(c.os.all fun o=>!o.ro)=true):Zr P gl (Zk c):=by
 intro f args H v H' M w cargs hs hw hr ha
 unfold Zk at hs
 cases hb:Nat.beq f c.f&&Zel c.args args with
 |false=>rw[hb] at hs;cases hs
 |true=>
  rw[hb] at hs
  simp only[cond_true] at hs
  rw[Bool.and_eq_true,Nat.beq_eq] at hb
  obtain⟨rfl,hb⟩:=hb
  have:=Zm0 hb
  subst this
  split at hs
  case h_2=>cases hs
  rename_i u hu
  simp only[Option.some.injEq,Prod.mk.injEq] at hs
  obtain⟨rfl,rfl⟩:=hs
  unfold pack at h
  split at h
  case h_2=>cases h
  rename_i v1 H1 hrun
  simp only[Option.some.injEq,Prod.mk.injEq] at h
  obtain⟨rfl,h2⟩:=h
  refine Zgh.calls (Zbk hE hgl hf (Zp.anyPlain hp ha _) hrun) hw hr ?_
  rintro v2 H2 ⟨rfl,rfl⟩
  have hl:c.os.length=c.keep.length:=by have:=congrArg List.length h2;simpa using this.symm
  refine⟨c.keep,hk,by simpa using hl,hu,fun j x hx=>?_⟩
  rw[List.getElem?_map] at hx
  obtain⟨o,ho,rfl⟩:=Option.map_eq_some_iff.1 hx
  have hj:j<c.os.length:=(List.getElem?_eq_some_iff.1 ho).1
  have h3:=congrArg (·[j]?) h2
  simp only[List.getElem?_map,ho,Option.map_some] at h3
  obtain⟨i,hi,h4⟩:=Option.map_eq_some_iff.1 h3
  cases hg:H2.get i with
  |none=>rw[hg] at h4;cases h4
  |some p=>
   rw[hg] at h4
   obtain⟨r1,r2⟩:=Z07 (b:=H.next) (keep:=c.keep) h4
   refine⟨i,p,hi,hg,r1,?_⟩
   rw[r2]
   have:=List.all_eq_true.1 hro o (List.mem_of_getElem? ho)
   simpa using this
end
end Go.Vai
end
section
namespace Go.Vai
noncomputable section
def Ze1(b0 b1:Int):Int:=Za .u16 (Zw .u16 (Za .u16 b0) (Za .u16 (Zf (Za .u16 b1) 8)))
def Z3i(u:Int→AV)(H:AHeap):Option AV→Option AV→Option (AV×AHeap)
 |some (.int .u8 b0),some (.int .u8 b1)=>some (u (Ze1 b0 b1),H)
 |_,_=>none
def Z9r(u:Int→AV)(H:AHeap)(o a:Nat):Option AObj→Option (AV×AHeap)
 |some (.cells _ T _ _ _ _ _)=>Z3i u H (T.get (o+a)) (T.get (o+(a+1)))
 |_=>none
def Zl2(f:Nat)(u:Int→AV):Sm:=fun g args H=>match args with
 |[.sl id o l _,.int .i64 (.ofNat a)]=>bif Nat.beq g f&&(Nat.ble (a+2) l&&(Nat.blt l 4611686018427387904&&Nat.blt (o+(a+1)) 140737488355328)) then Z9r u H o a (H.get id) else none
 |_=>none
theorem Zzk{u:Int→AV}{H:AHeap}{x0 x1:Option AV}{r:AV×AHeap}(h:Z3i u H x0 x1=some r):∃ b0 b1,x0=some (.int .u8 b0)∧x1=some (.int .u8 b1)∧r=(u (Ze1 b0 b1),H):=by
 unfold Z3i at h
 split at h
 ·simp only[Option.some.injEq] at h
  exact⟨_,_,rfl,rfl,h.symm⟩
 ·cases h
theorem Yuu{P:Program}{gl:List (Nat×List AV)}{E:Env}{f:Nat}{fn:AFunc}{u:Int→AV}(hE:∀ w,Z4 gl w→EnvOk E P (Kept gl w))(hf:E.fn f=some fn)(hu:∀ x,Plain (u x))
  (hb:∀ w,Z4 gl w→∀(o l c n a:Nat)(T:Tr AV)(b0 b1:Int),a+2≤l→l<4611686018427387904→T.get (o+a)=some (.int .u8 b0)→T.get (o+(a+1))=some (.int .u8 b1)→
   Tri E P (Kept gl w) none fn.body (Qa fn [.sl E.ng o l (some c),.int .i64 (.ofNat a)]) (Xm E.ng [.cells n T 0 none 0 true false]) fun e fr H=>(e=.normal∨e=.ret)∧fr.df=[]∧∃ keep fr' H' l,Ren E.ng keep fr H fr' H'∧K7 E fr'.t H' fn.results=some l∧Zn9 l=u (Ze1 b0 b1)):Zr P gl (Zl2 f u):=by
 intro g args H v H' M w cargs hs hw hr ha
 unfold Zl2 at hs
 split at hs
 case h_2=>cases hs
 rename_i id o l _ a
 cases hc:Nat.beq g f&&(Nat.ble (a+2) l&&(Nat.blt l 4611686018427387904&&Nat.blt (o+(a+1)) 140737488355328)) with
 |false=>rw[hc] at hs;cases hs
 |true=>
  rw[hc] at hs
  simp only[cond_true] at hs
  rw[Bool.and_eq_true,Bool.and_eq_true,Bool.and_eq_true,Nat.beq_eq,Nat.ble_eq,Nat.blt_eq,Nat.blt_eq] at hc
  obtain⟨rfl,hal,hl,hoa⟩:=hc
  cases hg:H.get id with
  |none=>rw[hg] at hs;cases hs
  |some ob=>
   rw[hg] at hs
   cases ob with
   |cells n T e gx fz ro mk=>
    obtain⟨b0,b1,h0,h1,hr2⟩:=Zzk hs
    simp only[Prod.mk.injEq] at hr2
    obtain⟨rfl,rfl⟩:=hr2
    let T2:Tr AV:=(Tr.nil.set (o+a) (.int .u8 b0)).set (o+(a+1)) (.int .u8 b1)
    have hT:∀ i v,T2.get i=some v→T.get i=some v∧Plain v:=by
     intro i v hv
     rcases Tr.get_set hv with⟨rfl,rfl⟩|⟨_,hv⟩
     ·exact⟨h1,Q2 _ _⟩
     rcases Tr.get_set hv with⟨rfl,rfl⟩|⟨_,hv⟩
     ·exact⟨h0,Q2 _ _⟩
     ·simp[Tr.get_nil] at hv
    obtain⟨m,hm,hrel⟩:=hr.obj id _ hg
    have hsub:=Zno hrel hT 0
    have hp:(2:Nat) ^ 47=140737488355328:=by decide
    have g1:T2.get (o+(a+1))=some (.int .u8 b1):=by rw[Vg _ _ _ (by omega),if_pos rfl]
    have g0:T2.get (o+a)=some (.int .u8 b0):=by rw[Vg _ _ _ (by omega),if_neg (by omega),Vg _ _ _ (by omega),if_pos rfl]
    match cargs,ha with
    |[cv0,cv1],⟨r0,r1,_⟩=>
     obtain⟨m',c',hm',rfl,_,_⟩:=r0
     rw[hm] at hm';cases hm'
     have hx:(V9 E.ng 0++[m])[E.ng]?=some m:=by
      rw[List.getElem?_append_right (by rw[Wo];omega),Wo,Nat.sub_self];rfl
     refine Zif (ex:=[m]) (os:=[.cells n T2 0 none 0 true false]) (args:=[.sl E.ng o l (some c'),.int .i64 (.ofNat a)]) hE hf hw hr rfl (fun o ho=>by cases List.mem_singleton.1 ho;rfl) (fun j m2 o2 e1 e2=>?_) ⟨⟨m,c',hx,rfl,(fun d e=>by cases e;rfl),(fun e=>by cases e)⟩,r1,trivial⟩ (hu _) (hb w hw o l c' n a T2 b0 b1 hal hl g0 g1)
     match j,e1,e2 with
     |0,e1,e2=>cases e1;cases e2;exact hsub
     |j+1,e1,e2=>simp at e1
   |_=>cases hs
def Z1b{α:Type}(u:Int→AV)(args:List AV)(H:AHeap)(k:AV→AHeap→Option α):Option α:=match args with
 |[.sl id o l _,.int .i64 (.ofNat a)]=>Ziw (H.get id) fun T=>bc (Nat.ble (Nat.add a 2) l) (bc (Nat.blt l 4611686018427387904) (bc (Nat.blt (Nat.add o (Nat.add a 1)) 140737488355328)
   (bc (Vs .u8 (T.get (Nat.add o a))) (bc (Vs .u8 (T.get (Nat.add o (Nat.add a 1)))) (k (u (Ze1 (Zl (T.get (Nat.add o a))) (Zl (T.get (Nat.add o (Nat.add a 1)))))) H) none) none) none) none) none
 |_=>none
theorem Zij{α:Type}{f:Nat}{u:Int→AV}{args:List AV}{H:AHeap}{k:AV→AHeap→Option α}{r:α}(h:Z1b u args H k=some r):∃ v H',Zl2 f u f args H=some (v,H')∧k v H'=some r:=by
 unfold Z1b at h
 split at h
 case h_2=>cases h
 rename_i id o l _ a
 unfold Ziw at h
 split at h
 case h_2=>cases h
 rename_i m T _ _ _ _ _ hg
 obtain⟨h1,h⟩:=Zo h
 obtain⟨h2,h⟩:=Zo h
 obtain⟨h3,h⟩:=Zo h
 obtain⟨g0,h⟩:=Zo h
 obtain⟨g1,h⟩:=Zo h
 refine⟨_,_,?_,h⟩
 have h1':Nat.ble (a+2) l=true:=h1
 have h3':Nat.blt (o+(a+1)) 140737488355328=true:=h3
 have e0:T.get (o+a)=some (.int .u8 (Zl (T.get (Nat.add o a)))):=Zdq g0
 have e1:T.get (o+(a+1))=some (.int .u8 (Zl (T.get (Nat.add o (Nat.add a 1))))):=Zdq g1
 unfold Zl2 Z9r
 simp only[Nat.beq_refl,cond_true,h1',h2,h3',hg,Bool.and_self]
 rw[e0,e1]
 rfl
end
end Go.Vai
end
