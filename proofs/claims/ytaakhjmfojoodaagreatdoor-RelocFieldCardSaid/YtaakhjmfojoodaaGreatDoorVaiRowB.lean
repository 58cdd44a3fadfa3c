/- Rows of bytes of any length: what lies in them, what is put into them; a call that answers such a row. -/
import Derived.Test.YtaakhjmfojoodaaGreatDoorVaiView2
import Derived.Shelf.LaysM
import Derived.Test.YtaakhjmfojoodaaGreatDoorProg
import Derived.KernelRfl
section
namespace Go.Vai
noncomputable section
abbrev bT(L:List UInt8):Tr AV:=Tr.nil.putAll 0 (L.map Z3)
def Wx(T:Tr AV)(L:List UInt8):Prop:=∀ i b,L[i]?=some b→T.get i=some (Z3 b)
def Y5(L:List UInt8):Nat→List UInt8→List UInt8
 |_,[]=>L
 |a,b::bs=>Y5 (L.set a b) (a+1) bs
theorem Z7:∀(bs:List UInt8)(L:List UInt8)(a:Nat),(Y5 L a bs).length=L.length
 |[],_,_=>rfl
 |b::bs,L,a=>by
  show(Y5 (L.set a b) (a+1) bs).length=_
  rw[Z7 bs,List.length_set]
theorem Zdy:∀(bs:List UInt8)(L:List UInt8)(a j:Nat),a+bs.length≤L.length→(Y5 L a bs)[j]?=if a≤j∧j<a+bs.length then bs[j - a]? else L[j]?
 |[],L,a,j,_=>by
  rw[if_neg (by simp only[List.length_nil];omega)];rfl
 |b::bs,L,a,j,h=>by
  simp only[List.length_cons] at h ⊢
  show(Y5 (L.set a b) (a+1) bs)[j]?=_
  rw[Zdy bs _ _ _ (by rw[List.length_set];omega)]
  by_cases h1:j=a
  ·subst h1
   rw[if_neg (by omega),if_pos (by omega),Nat.sub_self,List.getElem?_set_self (by omega)];rfl
  ·by_cases h2:a+1≤j∧j<a+1+bs.length
   ·rw[if_pos h2,if_pos (by omega),show j - a=(j - (a+1))+1 by omega,List.getElem?_cons_succ]
   ·rw[if_neg h2,if_neg (by omega),List.getElem?_set_ne (by omega)]
theorem Ywi{L:List UInt8}(h:L.length<2 ^ 47):Wx (bT L) L:=fun i b hi=>by
 have hl:i<L.length:=(List.getElem?_eq_some_iff.1 hi).1
 rw[Zgc _ _ _ _ (by rw[List.length_map];omega),if_pos (by rw[List.length_map];omega),Nat.sub_zero,List.getElem?_map,hi];rfl
theorem Wx.all{T:Tr AV}{L:List UInt8}(h:Wx T L):∀(n o:Nat),o+n≤L.length→T.getAll o n=some (((L.drop o).take n).map Z3)
 |0,o,_=>by simp[Tr.getAll_zero]
 |n+1,o,hn=>by
  have e:=h o (L[o]'(by omega)) (List.getElem?_eq_getElem (by omega))
  rw[Tr.getAll_succ,e]
  simp only[]
  rw[Wx.all h n (o+1) (by omega)]
  simp only[Option.some.injEq]
  rw[List.drop_eq_getElem_cons (by omega:o<L.length),List.take_succ_cons,List.map_cons]
theorem Wx.has{T:Tr AV}{L:List UInt8}(h:Wx T L){n o:Nat}(hn:o+n≤L.length):Xc T o n=true:=by
 unfold Xc;rw[h.all n o hn];rfl
theorem Wx.cells{T:Tr AV}{L:List UInt8}(h:Wx T L){n o:Nat}(hn:o+n≤L.length):Z5 T o n=((L.drop o).take n).map Z3:=by
 unfold Z5;rw[h.all n o hn];rfl
theorem byte_back(b:UInt8):UInt8.ofNat (Int.ofNat b.toNat).toNat=b:=by simp
theorem Zic:∀ l:List UInt8,Q5 (l.map Z3)=some l
 |[]=>rfl
 |b::l=>by
  show(match Q5 (l.map Z3) with | some m=>some (UInt8.ofNat (Int.ofNat b.toNat).toNat::m) | none=>none)=_
  rw[Zic l]
  simp only[byte_back]
theorem Zyw(l:List UInt8):Wq (l.map Z3)=true:=by unfold Wq;rw[Zic];rfl
theorem Zyu(l:List UInt8):Wb (l.map Z3)=l:=by unfold Wb;rw[Zic];rfl
theorem Wx.put1{T:Tr AV}{L:List UInt8}(h:Wx T L){a:Nat}(b:UInt8)(ha:a<L.length)(hL:L.length<2 ^ 47):Wx (T.set a (Z3 b)) (L.set a b):=fun i x hi=>by
 rw[Vg _ _ _ (by omega)]
 by_cases e:i=a
 ·subst e
  rw[List.getElem?_set_self ha] at hi
  cases hi
  rw[if_pos rfl]
 ·rw[if_neg e]
  rw[List.getElem?_set_ne (by omega)] at hi
  exact h i x hi
theorem Wx.put:∀{bs L:List UInt8}{T:Tr AV}(_:Wx T L){a:Nat},a+bs.length≤L.length→L.length<2 ^ 47→Wx (T.putAll a (bs.map Z3)) (Y5 L a bs)
 |[],_,_,h,_,_,_=>h
 |b::bs,L,T,h,a,ha,hL=>by
  simp only[List.length_cons] at ha
  exact Wx.put (bs:=bs) (T:=T.set a (Z3 b)) (h.put1 b (by omega) hL) (by rw[List.length_set];omega) (by rw[List.length_set];exact hL)
def V3(x:Int):UInt8:=UInt8.ofNat (Za .u8 x).toNat
theorem Zlg(x:Int):AV.int .u8 (Za .u8 x)=Z3 (V3 x):=by
 have h:0≤Za .u8 x∧Za .u8 x<256:=by rw[Zfq];omega
 unfold Z3 V3
 obtain⟨k,hk⟩:=Int.eq_ofNat_of_zero_le h.1
 rw[hk] at h ⊢
 have:k<256:=by omega
 simp[UInt8.toNat_ofNat',Nat.mod_eq_of_lt this]
def kAp(e:Nat):TRes→Ql→Option (Int×Option (List AV))
 |.call (.ret (.tup [.nils,.int .i64 x]) _),_=>some (x,none)
 |.call (.ret (.tup [.sl id 0 n none,.int .i64 x]) H),_=>(match H.get id with
  |some (.cells m T e' (some 1) 0 false false)=>bc (Nat.beq e e') (bc (Nat.beq m n) (bc (Xc T 0 n) (some (x,some (Z5 T 0 n))) none) none) none
  |_=>none)
 |_,_=>none
section
variable {P:Program} {gl:List (Nat×List AV)} {E:Env}
theorem Zze{f e:Nat}{pre post:List AV}{n:Nat}{L:List UInt8}{s:Smk (Int×Option (List AV))}{o:Ql}{x:Int}{vs:Option (List UInt8)}(hE:∀ w,Z4 gl w→EnvOk E P (Kept gl w))(hf:(E.fn f).isSome=true)(hs:Qp E s)
  (hL:L.length<2 ^ 47) (hpre:∀ v∈pre,Plain v) (hpost:∀ v∈post,Plain v)
  {M:List MEnt} {H:AHeap} {w:World} {cargs:List Value} {id ofs:Nat} {cap:Option Nat} (hw:Z4 gl w) (hr:HRel M H w) (ha:Zp M (pre++.sl id ofs L.length cap::post) cargs)
  {m:Nat} {T:Tr AV} {e2:TypeId} {g2:Option Nat} {fz:Nat} {ro mk:Bool} (hg:H.get id=some (.cells m T e2 g2 fz ro mk)) (hT:T.getAll ofs L.length=some (L.map Z3)) (h47:ofs+L.length<2 ^ 47)
  (h:∀ c n0,W2 E s Qe n (.call f (pre++.sl E.ng ofs L.length (some c)::post) (Xm E.ng [.cells n0 (Tr.nil.putAll ofs (L.map Z3)) 0 none 0 true false])) o (kAp e)=some (x,vs.map (·.map Z3))) :
  (vs=none∧Jp P f cargs M H w (.ret (.tup [.nils,.int .i64 x]) H))∨∃ l,vs=some l∧Jp P f cargs M H w (.ret (.tup [.sl H.next 0 l.length none,.int .i64 x]) (news H [.cells l.length (bT l) e (some 1) 0 false false])):=by
 have T2:∀ i v,(Tr.nil.putAll ofs (L.map Z3)).get i=some v→T.get i=some v∧Plain v:=by
  intro i v hv
  rcases Tr.get_putAll _ hv with⟨q,rfl,hq⟩|⟨_,hu⟩
  ·have hq2:q<L.length:=by have:=(List.getElem?_eq_some_iff.1 hq).1;simpa using this
   refine⟨by rw[Zee hT q hq2];exact hq,?_⟩
   rw[List.getElem?_map] at hq
   obtain⟨b,_,rfl⟩:=Option.map_eq_some_iff.1 hq
   exact Q2 _ _
  ·simp[Tr.get_nil] at hu
 obtain⟨mm,hm,hrel⟩:=hr.obj id _ hg
 have hsub:=Zno hrel T2 0
 have split:∀{l1 l2:List AV}{cs:List Value},Zp M (l1++l2) cs→∃ c1 c2,cs=c1++c2∧Zp M l1 c1∧Zp M l2 c2:=by
  intro l1
  induction l1 with
  |nil=>intro l2 cs h;exact⟨[],cs,rfl,trivial,h⟩
  |cons a l1 ih=>
   intro l2 cs h
   match cs,h with
   |c::cs,⟨h1,h2⟩=>
    obtain⟨c1,c2,rfl,h3,h4⟩:=ih h2
    exact⟨c::c1,c2,rfl,⟨h1,h3⟩,h4⟩
 obtain⟨c1,c2,rfl,ha1,ha2⟩:=split ha
 match c2,ha2 with
 |cv::c2,⟨r0,r1⟩=>
  obtain⟨m',c',hm',rfl,_,_⟩:=r0
  rw[hm] at hm';cases hm'
  have hx:(V9 E.ng 0++[mm])[E.ng]?=some mm:=by
   rw[List.getElem?_append_right (by rw[Wo];omega),Wo,Nat.sub_self];rfl
  have ha3:Zp (V9 E.ng 0++[mm]) (pre++.sl E.ng ofs L.length (some c')::post) (c1++_::c2):=
   Zp.append (Zp.anyPlain hpre ha1 _) ⟨⟨mm,c',hx,rfl,(fun d e=>by cases e;rfl),(fun e=>by cases e)⟩,Zp.anyPlain hpost r1 _⟩
  obtain⟨y,o',hrun,hk⟩:=Zb4 E hs Qe n _ _ _ _ (h c' m)
  have ho:∀(j:Nat) m2 o2,[mm][j]?=some m2→[AObj.cells m (Tr.nil.putAll ofs (L.map Z3)) 0 none 0 true false][j]?=some o2→Jc [] m2 w o2:=fun j m2 o2 e1 e2=>by
   match j,e1,e2 with
   |0,e1,e2=>cases e1;cases e2;exact hsub
   |j+1,e1,e2=>simp at e1
  have hro:∀ o∈[AObj.cells m (Tr.nil.putAll ofs (L.map Z3)) 0 none 0 true false],o.isRo=true:=fun o ho=>by cases List.mem_singleton.1 ho;rfl
  unfold kAp at hk
  split at hk
  ·simp only[Option.some.injEq,Prod.mk.injEq] at hk
   obtain⟨rfl,hk2⟩:=hk
   have hv:vs=none:=by
    cases vs with
    |none=>rfl
    |some l=>cases hk2
   exact .inl ⟨hv,Z0e (ex:=[mm]) hE hf hw hr rfl hro ho ha3 rfl hrun⟩
  ·rename_i id2 n2 x2 H1
   split at hk
   case h_2=>cases hk
   rename_i m2 T3 e3 hg3
   obtain⟨h1,hk1⟩:=Zo hk
   obtain⟨h2,hk2⟩:=Zo hk1
   obtain⟨h3,hk3⟩:=Zo hk2
   clear hk hk1 hk2
   rw[Nat.beq_eq] at h1 h2
   subst h1;subst h2
   simp only[Option.some.injEq,Prod.mk.injEq] at hk3
   obtain⟨rfl,hk2⟩:=hk3
   cases vs with
   |none=>cases hk2
   |some l=>
    have hk3:Z5 T3 0 m2=l.map Z3:=by
     have:some (Z5 T3 0 m2)=some (l.map Z3):=hk2
     exact Option.some.inj this
    have hall:=Zje h3
    rw[hk3] at hall
    have hl:l.length=m2:=by have:=Zep hall;simpa using this
    subst hl
    refine .inr ⟨l,rfl,Zzb (ex:=[mm]) (keep:=[id2]) hE hf hw hr rfl hro ho ha3 (by simp) rfl (fun j u hu=>?_) (by simp[rnV,Zds,Zd8]) hrun⟩
    match j,hu with
    |0,hu=>
     cases hu
     refine⟨id2,_,rfl,hg3,⟨bT l,rfl,fun i y hy=>?_⟩,rfl⟩
     rcases Tr.get_putAll _ hy with⟨q,rfl,hq⟩|⟨_,hu⟩
     ·have hq2:q<l.length:=by have:=(List.getElem?_eq_some_iff.1 hq).1;simpa using this
      refine⟨y,by rw[Zee hall q hq2];exact hq,?_⟩
      rw[List.getElem?_map] at hq
      obtain⟨b,_,rfl⟩:=Option.map_eq_some_iff.1 hq
      rfl
     ·simp[Tr.get_nil] at hu
    |j+1,hu=>simp at hu
  ·cases hk
end
end
end Go.Vai
end
section
namespace Go.Vai
noncomputable section
def eqU(l:List AV)(m:List UInt8):Bool:=Jk l (m.map Z3)
theorem Yu3{l:List AV}{m:List UInt8}(h:eqU l m=true):l=m.map Z3:=Zby h
theorem Zip:∀ l:List UInt8,Jk (l.map Z3) (l.map Z3)=true
 |[]=>rfl
 |b::l=>by
  show(Zgs (Z3 b) (Z3 b)&&Jk (l.map Z3) (l.map Z3))=true
  rw[Zip l,Bool.and_true]
  simp[Zgs,Z3,sameKind,Ya]
def V5(G:List UInt8→Bool)(T:Tr AV)(n:Nat):Bool:=Xc T 0 n&&(eqU (Z5 T 0 n) (Wb (Z5 T 0 n))&&(Nat.blt n 1000000&&G (Wb (Z5 T 0 n))))
theorem Y4{G:List UInt8→Bool}{T:Tr AV}{L:List UInt8}(h:Wx T L)(hl:L.length<1000000)(hG:G L=true):V5 G T L.length=true:=by
 have e:=h.cells (n:=L.length) (o:=0) (by omega)
 rw[List.drop_zero,List.take_length] at e
 unfold V5 eqU
 rw[h.has (by omega),e,Zyu,Zip,hG]
 simp only[Bool.true_and,Bool.and_true,Nat.blt_eq]
 exact hl
def Vf(t ty a s p t' ty' a' s' p':Int):Bool:=Zd t' t&&(Zd ty' ty&&(Zd a' a&&(Zd s' s&&Zd p' p)))
theorem Yk(t ty a s p:Int):Vf t ty a s p t ty a s p=true:=by simp[Vf,Ya]
theorem Zsy{t ty a s p t' ty' a' s' p':Int}(h:Vf t ty a s p t' ty' a' s' p'=true):t'=t∧ty'=ty∧a'=a∧s'=s∧p'=p:=by
 simpa [Vf,Ya] using h
def Zu8(e:Nat)(G:List UInt8→Bool)(L:List UInt8)(H:AHeap)(n:Nat):Option AObj→Option (AV×AHeap)
 |some (.cells _ T _ _ _ _ _)=>bif V5 G T n then some (.tup [.sl H.next 0 L.length none,.int .i64 (.ofNat 0)],news H [.cells L.length (bT L) e (some 1) 0 false false]) else none
 |_=>none
def Zfh(f e:Nat)(t ty a s p:Int)(G:List UInt8→Bool)(L:List UInt8):Sm:=fun g args H=>match args with
 |[.int .i64 t',.int .i64 ty',.sl id 0 n _,.int .i64 a',.int .u64 s',.int .u64 p']=>bif Nat.beq g f&&Vf t ty a s p t' ty' a' s' p' then Zu8 e G L H n (H.get id) else none
 |_=>none
def Zwc(x:Int)(G:List UInt8→Bool)(H:AHeap)(n:Nat):Option AObj→Option (AV×AHeap)
 |some (.cells _ T _ _ _ _ _)=>bif V5 G T n then some (.tup [.nils,.int .i64 x],H) else none
 |_=>none
def Zl8(f:Nat)(t ty a s p:Int)(x:Int)(G:List UInt8→Bool):Sm:=fun g args H=>match args with
 |[.int .i64 t',.int .i64 ty',.sl id 0 n _,.int .i64 a',.int .u64 s',.int .u64 p']=>bif Nat.beq g f&&Vf t ty a s p t' ty' a' s' p' then Zwc x G H n (H.get id) else none
 |_=>none
section
variable {α:Type}
def Yh9(e:Nat)(t ty a s p:Int)(G:List UInt8→Bool)(L:List UInt8)(args:List AV)(H:AHeap)(k:AV→AHeap→Option α):Option α:=match args with
 |[.int .i64 t',.int .i64 ty',.sl id 0 n _,.int .i64 a',.int .u64 s',.int .u64 p']=>bc (Vf t ty a s p t' ty' a' s' p') (Ziw (H.get id) fun T=>bc (V5 G T n) (k (.tup [.sl H.next 0 L.length none,.int .i64 (.ofNat 0)]) (news H [.cells L.length (bT L) e (some 1) 0 false false])) none) none
 |_=>none
theorem Z3w{f e:Nat}{t ty a s p:Int}{G:List UInt8→Bool}{L:List UInt8}{args:List AV}{H:AHeap}{k:AV→AHeap→Option α}{r:α}(h:Yh9 e t ty a s p G L args H k=some r):∃ v H',Zfh f e t ty a s p G L f args H=some (v,H')∧k v H'=some r:=by
 unfold Yh9 at h
 split at h
 case h_2=>cases h
 obtain⟨h1,h⟩:=Zo h
 unfold Ziw at h
 split at h
 case h_2=>cases h
 rename_i m T _ _ _ _ _ hg
 obtain⟨h2,h⟩:=Zo h
 exact⟨_,_,by simp only[Zfh,Nat.beq_refl,h1,Bool.and_self,cond_true,hg,Zu8,h2],h⟩
def Ymb(t ty a s p:Int)(x:Int)(G:List UInt8→Bool)(args:List AV)(H:AHeap)(k:AV→AHeap→Option α):Option α:=match args with
 |[.int .i64 t',.int .i64 ty',.sl id 0 n _,.int .i64 a',.int .u64 s',.int .u64 p']=>bc (Vf t ty a s p t' ty' a' s' p') (Ziw (H.get id) fun T=>bc (V5 G T n) (k (.tup [.nils,.int .i64 x]) H) none) none
 |_=>none
theorem Z23{f:Nat}{t ty a s p:Int}{x:Int}{G:List UInt8→Bool}{args:List AV}{H:AHeap}{k:AV→AHeap→Option α}{r:α}(h:Ymb t ty a s p x G args H k=some r):∃ v H',Zl8 f t ty a s p x G f args H=some (v,H')∧k v H'=some r:=by
 unfold Ymb at h
 split at h
 case h_2=>cases h
 obtain⟨h1,h⟩:=Zo h
 unfold Ziw at h
 split at h
 case h_2=>cases h
 rename_i m T _ _ _ _ _ hg
 obtain⟨h2,h⟩:=Zo h
 exact⟨_,_,by simp only[Zl8,Nat.beq_refl,h1,Bool.and_self,cond_true,hg,Zwc,h2],h⟩
end
def Zab(P:Program)(gl:List (Nat×List AV))(f e:Nat)(t ty a s p:Int)(L:List UInt8)(x:Int)(r:Option (List UInt8)):Prop:=
 ∃(E:Env)(n:Nat)(sk:Smk (Int×Option (List AV)))(o:Ql),(∀ w,Z4 gl w→EnvOk E P (Kept gl w))∧(E.fn f).isSome=true∧Qp E sk ∧
  ∀ c n0,W2 E sk Qe n (.call f [.int .i64 t,.int .i64 ty,.sl E.ng 0 L.length (some c),.int .i64 a,.int .u64 s,.int .u64 p] (Xm E.ng [.cells n0 (bT L) 0 none 0 true false])) o (kAp e)=some (x,r.map (·.map Z3))
section
variable {P:Program} {gl:List (Nat×List AV)}
theorem Zs3{G:List UInt8→Bool}{T:Tr AV}{n:Nat}(h:V5 G T n=true):∃ L,L.length=n∧n<1000000∧T.getAll 0 n=some (L.map Z3)∧G L=true:=by
 unfold V5 at h
 simp only[Bool.and_eq_true,Nat.blt_eq] at h
 obtain⟨h1,h2,h3,h4⟩:=h
 have hall:=Zje h1
 have e:=Yu3 h2
 have hl:=Zep hall
 refine⟨Wb (Z5 T 0 n),?_,h3,by rw[←e];exact hall,h4⟩
 rw[e,List.length_map] at hl
 exact hl
theorem Yva {f e : Nat} {t ty a s p : Int} {G : List UInt8 → Bool} {L : List UInt8} (h : ∀ X, G X = true → Zab P gl f e t ty a s p X (.ofNat 0) (some L)) : Zr P gl (Zfh f e t ty a s p G L) := by
  intro g args H v H' M w cargs hs hw hr ha
  unfold Zfh at hs
  split at hs
  case h_2 => cases hs
  rename_i t' ty' id n cap a' s' p'
  cases hb : Nat.beq g f && Vf t ty a s p t' ty' a' s' p' with
  | false => rw [hb] at hs; cases hs
  | true =>
    rw [hb] at hs
    simp only [cond_true] at hs
    rw [Bool.and_eq_true, Nat.beq_eq] at hb
    obtain ⟨rfl, hb⟩ := hb
    obtain ⟨rfl, rfl, rfl, rfl, rfl⟩ := Zsy hb
    unfold Zu8 at hs
    split at hs
    case h_2 => cases hs
    rename_i m T e2 g2 fz ro mk hg
    cases hq : V5 G T n with
    | false => rw [hq] at hs; cases hs
    | true =>
      rw [hq] at hs
      simp only [cond_true, Option.some.injEq, Prod.mk.injEq] at hs
      obtain ⟨rfl, rfl⟩ := hs
      obtain ⟨X, rfl, hx, hT, hG⟩ := Zs3 hq
      obtain ⟨E, k, sk, o, hE, hf, hsk, key⟩ := h X hG
      have h47 : X.length < 2 ^ 47 := by have : (2 : Nat) ^ 47 = 140737488355328 := by decide
                                         omega
      rcases Zze (pre := [.int .i64 t', .int .i64 ty']) (post := [.int .i64 a', .int .u64 s', .int .u64 p']) hE hf hsk h47 (Zh rfl) (Zh rfl) hw hr ha hg hT (by omega) key with ⟨h1, _⟩ | ⟨l, h1, h2⟩
      · cases h1
      · cases h1; exact h2
theorem Yty {f e : Nat} {t ty a s p x : Int} {G : List UInt8 → Bool} (h : ∀ X, G X = true → Zab P gl f e t ty a s p X x none) : Zr P gl (Zl8 f t ty a s p x G) := by
  intro g args H v H' M w cargs hs hw hr ha
  unfold Zl8 at hs
  split at hs
  case h_2 => cases hs
  rename_i t' ty' id n cap a' s' p'
  cases hb : Nat.beq g f && Vf t ty a s p t' ty' a' s' p' with
  | false => rw [hb] at hs; cases hs
  | true =>
    rw [hb] at hs
    simp only [cond_true] at hs
    rw [Bool.and_eq_true, Nat.beq_eq] at hb
    obtain ⟨rfl, hb⟩ := hb
    obtain ⟨rfl, rfl, rfl, rfl, rfl⟩ := Zsy hb
    unfold Zwc at hs
    split at hs
    case h_2 => cases hs
    rename_i m T e2 g2 fz ro mk hg
    cases hq : V5 G T n with
    | false => rw [hq] at hs; cases hs
    | true =>
      rw [hq] at hs
      simp only [cond_true, Option.some.injEq, Prod.mk.injEq] at hs
      obtain ⟨rfl, rfl⟩ := hs
      obtain ⟨X, rfl, hx, hT, hG⟩ := Zs3 hq
      obtain ⟨E, k, sk, o, hE, hf, hsk, key⟩ := h X hG
      have h47 : X.length < 2 ^ 47 := by have : (2 : Nat) ^ 47 = 140737488355328 := by decide
                                         omega
      rcases Zze (pre := [.int .i64 t', .int .i64 ty']) (post := [.int .i64 a', .int .u64 s', .int .u64 p']) hE hf hsk h47 (Zh rfl) (Zh rfl) hw hr ha hg hT (by omega) key with ⟨_, h1⟩ | ⟨l, h1, h2⟩
      · exact h1
      · cases h1
end
end
end Go.Vai
end
section
namespace Go.Vai
noncomputable section
section
variable {α:Type} {b:Bool} {x y r:Option α}
theorem Zb(h:b=true)(hx:x=r):bc b x y=r:=by rw[h];exact hx
theorem Zg(h:b=false)(hy:y=r):bc b x y=r:=by rw[h];exact hy
end
theorem Yj{b:Bool}(h:b=true):(!b)=false:=by rw[h];rfl
theorem Y7{b:Bool}(h:b=false):(!b)=true:=by rw[h];rfl
theorem Jd{b c:Bool}(h:b=true):(b||c)=true:=by rw[h];rfl
theorem orF{b c:Bool}(h:b=false)(h2:c=false):(b||c)=false:=by rw[h,h2];rfl
theorem Vq{x y:Nat}(h:x<y):Nat.blt x y=true:=by rw[Nat.blt_eq];exact h
theorem K6{x y:Nat}(h:y≤x):Nat.blt x y=false:=by
 cases e:Nat.blt x y with
 |false=>rfl
 |true=>rw[Nat.blt_eq] at e;omega
theorem Vu{x y:Nat}(h:x≤y):Nat.ble x y=true:=by rw[Nat.ble_eq];exact h
theorem eqN(n:Nat):Nat.beq n n=true:=Nat.beq_refl n
theorem eqT{m n:Nat}(h:m=n):Nat.beq m n=true:=by rw[h];exact Nat.beq_refl n
theorem eqF{m n:Nat}(h:m≠n):Nat.beq m n=false:=by
 cases e:Nat.beq m n with
 |false=>rfl
 |true=>rw[Nat.beq_eq] at e;omega
theorem Z8(x:Int):Zd x x=true:=by simp[Ya]
theorem Jj(x:List UInt8):leq x x=true:=by simp[Q6]
theorem Y7q{l a:Nat}(h:a≤l)(hl:l<4611686018427387904):Za .i64 (Int.sub (.ofNat l) (.ofNat a))=.ofNat (l - a):=by
 have:Int.sub (.ofNat l) (.ofNat a)=.ofNat (l - a):=by
  show(Int.ofNat l) - (Int.ofNat a)=Int.ofNat (l - a)
  simp only[Int.ofNat_eq_natCast]
  omega
 rw[this]
 exact Zb8 (by show l - a<9223372036854775808;omega)
theorem Qw{n a k:Nat}(h:a+k≤n)(hn:n<4611686018427387904):Z2 (Za .i64 (Int.sub (.ofNat n) (.ofNat a))) (.ofNat k)=false:=by
 rw[Y7q (by omega) hn];exact K6 (by omega)
theorem Zxx{n a k:Nat}(h:n<a+k)(ha:a≤n)(hn:n<4611686018427387904):Z2 (Za .i64 (Int.sub (.ofNat n) (.ofNat a))) (.ofNat k)=true:=by
 rw[Y7q ha hn];exact Vq (by omega)
theorem Ytf{a k:Nat}(h:a+k<4611686018427387904):Za .i64 (.ofNat (Nat.add a k))=.ofNat (a+k):=Zb8 (n:=a+k) (by show a+k<9223372036854775808;omega)
theorem Y22(a b:List UInt8):Zv (a++b)=Zv a+Zv b:=List.length_append
def Ye(T:Tr AV)(n:Nat):Tr AV:=Tr.putAll Tr.nil 0 (Z5 T 0 n)
def Y8(T:Tr AV)(a:Nat):Int:=Zaa (Zl (Tr.get T (Nat.add 0 (Nat.mul a 1)))) (Zl (Tr.get T (Nat.succ (Nat.add 0 (Nat.mul a 1))))) (Zl (Tr.get T (Nat.add (Nat.add 0 (Nat.mul a 1)) 2))) (Zl (Tr.get T (Nat.add (Nat.add 0 (Nat.mul a 1)) 3)))
def wd2(T:Tr AV)(a:Nat):Int:=Ze1 (Zl (Tr.get T (Nat.add 0 (Nat.mul a 1)))) (Zl (Tr.get T (Nat.succ (Nat.add 0 (Nat.mul a 1)))))
section
variable {L:List UInt8} (hn:L.length<1000000)
include hn
theorem p47 : L.length < 2 ^ 47 := by have : (2 : Nat) ^ 47 = 140737488355328 := by decide
                                      omega
theorem Zj:Wx (bT L) L:=Ywi (p47 hn)
theorem Z05:Z5 (bT L) 0 L.length=L.map Z3:=by
 have e:=(Zj hn).cells (n:=L.length) (o:=0) (by omega)
 rw[List.drop_zero,List.take_length] at e
 exact e
theorem Zlw:Xc (bT L) 0 L.length=true:=(Zj hn).has (by omega)
theorem Zg3:Wq (Z5 (bT L) 0 L.length)=true:=by rw[Z05 hn];exact Zyw L
theorem Y4v:Ye (bT L) L.length=bT L:=by unfold Ye;rw[Z05 hn]
theorem Zt:Wx (Ye (bT L) L.length) L:=by rw[Y4v hn];exact Zj hn
end
theorem Xh{T:Tr AV}{L:List UInt8}{i:Nat}(h:Wx T L)(hi:i<L.length):Vs .u8 (T.get i)=true:=by
 rw[h i _ (List.getElem?_eq_getElem hi)];rfl
def Js(L:List UInt8)(i:Nat):Int:=Int.ofNat (L[i]?.getD 0).toNat
theorem Q9{T:Tr AV}{L:List UInt8}{i:Nat}(h:Wx T L)(hi:i<L.length):Zl (T.get i)=Js L i:=by
 rw[h i _ (List.getElem?_eq_getElem hi)]
 unfold Js
 rw[List.getElem?_eq_getElem hi];rfl
def w4(L:List UInt8)(a:Nat):Int:=Zaa (Js L a) (Js L (a+1)) (Js L (a+2)) (Js L (a+3))
def w2(L:List UInt8)(a:Nat):Int:=Ze1 (Js L a) (Js L (a+1))
theorem Zqp(a:Nat):Nat.add 0 (Nat.mul a 1)=a:=by show 0+a*1=a;omega
theorem Yw{T:Tr AV}{L:List UInt8}{a:Nat}(h:Wx T L)(ha:a+4≤L.length):Y8 T a=w4 L a:=by
 unfold Y8 w4
 simp only[Zqp]
 rw[Q9 h (show a<L.length by omega),Q9 h (show a+1<L.length by omega),Q9 h (show a+2<L.length by omega),Q9 h (show a+3<L.length by omega)]
theorem J8{T:Tr AV}{L:List UInt8}{a:Nat}(h:Wx T L)(ha:a+2≤L.length):wd2 T a=w2 L a:=by
 unfold wd2 w2
 simp only[Zqp]
 rw[Q9 h (show a<L.length by omega),Q9 h (show a+1<L.length by omega)]
def by4(W:Int):List UInt8:=[V3 W,V3 (Zc W 8),V3 (Zc W 16),V3 (Zc W 24)]
def by2(W:Int):List UInt8:=[V3 W,V3 (Zc W 8)]
section
variable {T:Tr AV} {L:List UInt8} (hR:Wx T L) (hn:L.length<1000000) {a:Nat} (W:Int)
include hR hn
theorem Za4(ha:a+4≤L.length):Wx (Tr.putAll T (Nat.add 0 (Nat.mul a 1)) [.int .u8 (Za .u8 W),.int .u8 (Za .u8 (Zc W 8)),.int .u8 (Za .u8 (Zc W 16)),.int .u8 (Za .u8 (Zc W 24))]) (Y5 L a (by4 W)):=by
 simp only[Zlg,Zqp]
 exact hR.put (bs:=by4 W) ha (p47 hn)
theorem Yk3(ha:a+2≤L.length):Wx (Tr.putAll T (Nat.add 0 (Nat.mul a 1)) [.int .u8 (Za .u8 W),.int .u8 (Za .u8 (Zc W 8))]) (Y5 L a (by2 W)):=by
 simp only[Zlg,Zqp]
 exact hR.put (bs:=by2 W) ha (p47 hn)
theorem Ytw(ha:a+1≤L.length):Wx (Tr.putAll T (Nat.add 0 (Nat.mul a 1)) [.int .u8 (Za .u8 (Zc W 0))]) (Y5 L a [V3 (Zc W 0)]):=by
 simp only[Zlg,Zqp]
 exact hR.put (bs:=[V3 (Zc W 0)]) ha (p47 hn)
theorem Zen(ha:a+4≤L.length):Wx (Tr.putAll (Tr.putAll (Tr.putAll (Tr.putAll T (Nat.add 0 (Nat.mul a 1)) [.int .u8 (Za .u8 (Zc W 0))]) (Nat.succ (Nat.add 0 (Nat.mul a 1))) [.int .u8 (Za .u8 (Zc W 8))]) (Nat.add (Nat.add 0 (Nat.mul a 1)) 2) [.int .u8 (Za .u8 (Zc W 16))]) (Nat.add (Nat.add 0 (Nat.mul a 1)) 3) [.int .u8 (Za .u8 (Zc W 24))])
  (Y5 L a [V3 (Zc W 0),V3 (Zc W 8),V3 (Zc W 16),V3 (Zc W 24)]):=by
 simp only[Zlg,Zqp]
 exact hR.put (bs:=[V3 (Zc W 0),V3 (Zc W 8),V3 (Zc W 16),V3 (Zc W 24)]) ha (p47 hn)
theorem Zvz(ha:a+8≤L.length):Wx (Tr.putAll (Tr.putAll (Tr.putAll (Tr.putAll (Tr.putAll (Tr.putAll (Tr.putAll (Tr.putAll T (Nat.add 0 (Nat.mul a 1)) [.int .u8 (Za .u8 (Zc W 0))]) (Nat.succ (Nat.add 0 (Nat.mul a 1))) [.int .u8 (Za .u8 (Zc W 8))]) (Nat.add (Nat.add 0 (Nat.mul a 1)) 2) [.int .u8 (Za .u8 (Zc W 16))]) (Nat.add (Nat.add 0 (Nat.mul a 1)) 3) [.int .u8 (Za .u8 (Zc W 24))])
  (Nat.add (Nat.add 0 (Nat.mul a 1)) 4) [.int .u8 (Za .u8 (Zc W 32))]) (Nat.add (Nat.add 0 (Nat.mul a 1)) 5) [.int .u8 (Za .u8 (Zc W 40))]) (Nat.add (Nat.add 0 (Nat.mul a 1)) 6) [.int .u8 (Za .u8 (Zc W 48))]) (Nat.add (Nat.add 0 (Nat.mul a 1)) 7) [.int .u8 (Za .u8 (Zc W 56))])
  (Y5 L a [V3 (Zc W 0),V3 (Zc W 8),V3 (Zc W 16),V3 (Zc W 24),V3 (Zc W 32),V3 (Zc W 40),V3 (Zc W 48),V3 (Zc W 56)]):=by
 simp only[Zlg,Zqp]
 exact hR.put (bs:=[V3 (Zc W 0),V3 (Zc W 8),V3 (Zc W 16),V3 (Zc W 24),V3 (Zc W 32),V3 (Zc W 40),V3 (Zc W 48),V3 (Zc W 56)]) ha (p47 hn)
end
theorem W1{T:Tr AV}{L:List UInt8}{n:Nat}(h:Wx T L)(hl:L.length=n):some (Int.ofNat 0,some (Z5 T 0 n))=some (Int.ofNat 0,(some L).map (·.map Z3)):=by
 subst hl
 have e:=h.cells (n:=L.length) (o:=0) (by omega)
 rw[List.drop_zero,List.take_length] at e
 rw[e];rfl
theorem Zs{a b:Sm}{f:Nat}{args:List AV}{H:AHeap}(h:a f args H=none):Z9 a b f args H=b f args H:=by unfold Z9;rw[h]
theorem Wh{a b:Sm}{f:Nat}{args:List AV}{H:AHeap}{r:AV×AHeap}(h:a f args H=some r):Z9 a b f args H=some r:=by unfold Z9;rw[h]
theorem Vj{kinds:List (Nat×Nat×Nat)}{f:Nat}(h:Zub kinds f=none)(args:List AV)(H:AHeap):Vy kinds f args H=none:=by unfold Vy;rw[h]
theorem Zxk{f g:Nat}(h:f≠g):Nat.beq f g=false:=eqF h
theorem Wu{f g:Nat}(h:g≠f)(args:List AV)(H:AHeap):Jm f g args H=none:=by
 unfold Jm
 split
 ·rw[Zxk h];rfl
 ·rfl
theorem Wc{f e g:Nat}(h:g≠f)(args:List AV)(H:AHeap):K0 f e g args H=none:=by
 unfold K0
 split
 ·rw[Zxk h];rfl
 ·rfl
theorem Ws{f g:Nat}{u:Int→AV}(h:g≠f)(args:List AV)(H:AHeap):Ze5 f u g args H=none:=by
 unfold Ze5
 split
 ·rw[Zxk h];rfl
 ·rfl
theorem Qz{f g:Nat}{u:Int→AV}(h:g≠f)(args:List AV)(H:AHeap):Zl2 f u g args H=none:=by
 unfold Zl2
 split
 ·rw[Zxk h];rfl
 ·rfl
theorem V6{f e g:Nat}{bs:Int→List Int}{G:List UInt8→Bool}{EE EW:List UInt8→Int→Int→Int→Int→Int→Int}(h:g≠f)(args:List AV)(H:AHeap):Jn f e bs G EE EW g args H=none:=by
 unfold Jn
 split
 ·rw[Zxk h];rfl
 ·rfl
end
end Go.Vai
end
section
namespace Go.Vai
noncomputable section
theorem Wt(b:Bool)(x:Nat):cn b x x=x:=by cases b <;> rfl
theorem Jf{x y:List UInt8}(h:x=y):leq x y=true:=by rw[h];exact Jj _
section
variable {T:Tr AV} {L:List UInt8} (h:Wx T L)
include h
theorem Ykt{o n:Nat}(hn:o+n≤L.length):Wq (Z5 T o n)=true:=by rw[h.cells hn];exact Zyw _
theorem Yk4{o n:Nat}(hn:o+n≤L.length):Wb (Z5 T o n)=(L.drop o).take n:=by rw[h.cells hn];exact Zyu _
theorem Xo{a:Nat}(ha:a≤L.length):Xc T 0 (Nat.mul a 1)=true:=h.has (show 0+a*1≤L.length by omega)
theorem Yz{a:Nat}(ha:a≤L.length):Wq (Z5 T 0 (Nat.mul a 1))=true:=Ykt h (show 0+a*1≤L.length by omega)
theorem Ja{a:Nat}(ha:a≤L.length):Wb (Z5 T 0 (Nat.mul a 1))=L.take a:=by
 rw[Yk4 h (show 0+Nat.mul a 1≤L.length from show 0+a*1≤L.length by omega),List.drop_zero]
 show L.take (a*1)=_
 rw[Nat.mul_one]
theorem Zne{K:Nat}(hK:K≤L.length):Xc T (Nat.add 0 (Nat.mul K 1)) (Nat.mul (Nat.sub L.length K) 1)=true:=h.has (show 0+K*1+(L.length - K)*1≤L.length by omega)
theorem Zix{K:Nat}(hK:K≤L.length):Wq (Z5 T (Nat.add 0 (Nat.mul K 1)) (Nat.mul (Nat.sub L.length K) 1))=true:=Ykt h (show 0+K*1+(L.length - K)*1≤L.length by omega)
theorem Zng{K:Nat}(hK:K≤L.length):Wb (Z5 T (Nat.add 0 (Nat.mul K 1)) (Nat.mul (Nat.sub L.length K) 1))=L.drop K:=by
 refine(Yk4 h (show 0+K*1+(L.length - K)*1≤L.length by omega)).trans ?_
 rw[Nat.mul_one,Nat.mul_one,Nat.zero_add,List.take_of_length_le (by rw[List.length_drop];omega)]
omit h in
theorem Z4c{c K:Nat}(hK:K≤L.length):cn (Nat.beq c K) 0 (Nat.add 0 (Nat.mul K 1))+Nat.mul (Nat.sub L.length K) 1≤L.length:=by
 have e1:Nat.mul (Nat.sub L.length K) 1=L.length - K:=Nat.mul_one _
 have e2:Nat.add 0 (Nat.mul K 1)=K:=Zqp K
 rw[e1,e2]
 cases Nat.beq c K with
 |true=>show 0+(L.length - K)≤_;omega
 |false=>show K+(L.length - K)≤_;omega
theorem Zi8{c K:Nat}(hK:K≤L.length):Xc T (cn (Nat.beq c K) 0 (Nat.add 0 (Nat.mul K 1))) (Nat.mul (Nat.sub L.length K) 1)=true:=h.has (Z4c hK)
theorem Zfz{c K:Nat}(hK:K≤L.length):Wq (Z5 T (cn (Nat.beq c K) 0 (Nat.add 0 (Nat.mul K 1))) (Nat.mul (Nat.sub L.length K) 1))=true:=Ykt h (Z4c hK)
theorem Zat{c K:Nat}(hc:L.length≤c)(hK:K≤L.length):Wb (Z5 T (cn (Nat.beq c K) 0 (Nat.add 0 (Nat.mul K 1))) (Nat.mul (Nat.sub L.length K) 1))=L.drop K:=by
 rw[Yk4 h (Z4c hK)]
 have e1:Nat.mul (Nat.sub L.length K) 1=L.length - K:=Nat.mul_one _
 have e2:Nat.add 0 (Nat.mul K 1)=K:=Zqp K
 rw[e1,e2]
 cases e:Nat.beq c K with
 |true=>
  rw[Nat.beq_eq] at e
  have:K=L.length:=by omega
  subst this
  rw[Nat.sub_self,List.take_zero,List.drop_length]
 |false=>
  show(L.drop K).take (L.length - K)=_
  rw[List.take_of_length_le (by rw[List.length_drop];omega)]
end
theorem wA{a k:Nat}(h:a+k<4611686018427387904):Za .i64 (.ofNat (Nat.add a k))=.ofNat (a+k):=Ytf h
def Y6(T:Tr AV)(a:Nat):Int:=Zaa (Zl (Tr.get T (Nat.add 0 a))) (Zl (Tr.get T (Nat.add 0 (Nat.succ a)))) (Zl (Tr.get T (Nat.add 0 (Nat.add a 2)))) (Zl (Tr.get T (Nat.add 0 (Nat.add a 3))))
def Qb(T:Tr AV)(a:Nat):Int:=Ze1 (Zl (Tr.get T (Nat.add 0 a))) (Zl (Tr.get T (Nat.add 0 (Nat.succ a))))
theorem z0(a:Nat):Nat.add 0 a=a:=Nat.zero_add a
theorem Znw{T:Tr AV}{L:List UInt8}{a:Nat}(h:Wx T L)(ha:a+4≤L.length):Y6 T a=w4 L a:=by
 unfold Y6 w4
 simp only[z0]
 rw[Q9 h (show a<L.length by omega),Q9 h (show a+1<L.length by omega),Q9 h (show a+2<L.length by omega),Q9 h (show a+3<L.length by omega)]
theorem Z8r{T:Tr AV}{L:List UInt8}{a:Nat}(h:Wx T L)(ha:a+2≤L.length):Qb T a=w2 L a:=by
 unfold Qb w2
 simp only[z0]
 rw[Q9 h (show a<L.length by omega),Q9 h (show a+1<L.length by omega)]
theorem Zg9{bs L:List UInt8}{a:Nat}(h:a+bs.length≤L.length):(Y5 L a bs).take a=L.take a:=by
 refine List.ext_getElem? fun j=>?_
 rw[List.getElem?_take,List.getElem?_take]
 by_cases hj:j<a
 ·rw[if_pos hj,if_pos hj,Zdy _ _ _ _ h,if_neg (by omega)]
 ·rw[if_neg hj,if_neg hj]
theorem Zg1{bs L:List UInt8}{a:Nat}(h:a+bs.length≤L.length):(Y5 L a bs).drop (a+bs.length)=L.drop (a+bs.length):=by
 refine List.ext_getElem? fun j=>?_
 rw[List.getElem?_drop,List.getElem?_drop,Zdy _ _ _ _ h,if_neg (by omega)]
theorem Zev{bs L:List UInt8}{a:Nat}(h:a+bs.length≤L.length):Y5 (Y5 L a bs) a bs=Y5 L a bs:=by
 refine List.ext_getElem? fun j=>?_
 rw[Zdy _ _ _ _ (by rw[Z7];exact h),Zdy _ _ _ _ h]
 by_cases hj:a≤j∧j<a+bs.length
 ·rw[if_pos hj,if_pos hj]
 ·rw[if_neg hj,if_neg hj]
theorem Zv7(x:Int):Int.ofNat (V3 x).toNat=Za .u8 x:=by
 have h:=Zlg x
 unfold Z3 at h
 simp only[AV.int.injEq,true_and] at h
 exact h.symm
theorem Zo5{bs L:List UInt8}{a j:Nat}{b:UInt8}(h:a+bs.length≤L.length)(hb:bs[j]?=some b):Js (Y5 L a bs) (a+j)=Int.ofNat b.toNat:=by
 have hj:j<bs.length:=(List.getElem?_eq_some_iff.1 hb).1
 unfold Js
 rw[Zdy _ _ _ _ h,if_pos (by omega),show a+j - a=j by omega,hb];rfl
theorem Z7r{L:List UInt8}{a:Nat}{W:Int}(h:a+4≤L.length)(hW:0≤W∧W<4294967296):w4 (Y5 L a (by4 W)) a=W:=by
 have g:∀(j:Nat)(b:UInt8),(by4 W)[j]?=some b→Js (Y5 L a (by4 W)) (a+j)=Int.ofNat b.toNat:=fun j b hb=>Zo5 h hb
 unfold w4
 rw[show Js (Y5 L a (by4 W)) a=_ from g 0 _ rfl,g 1 _ rfl,g 2 _ rfl,g 3 _ rfl]
 simp only[Zv7]
 exact Yms hW
theorem Yje{w:Int}(h:0≤w∧w<65536):Ze1 (Za .u8 w) (Za .u8 (Zc w 8))=w:=by
 have p8:((2 ^ 8:Nat):Int)=256:=rfl
 have p16:((2 ^ IntKind.u16.bits:Nat):Int)=65536:=rfl
 unfold Ze1
 simp only[Zfq,Ya0,Kx,Za9,p8]
 rw[show w % 256 % 65536=w % 256 by omega,show w / 256 % 256 % 65536*256 % 65536=w / 256*256 by omega]
 rw[Ze6 (kd:=.u16) 8 (by omega) (by rw[p8];omega) (by omega) (by rw[p16];omega) (by rw[p8];omega) (by decide)]
 omega
theorem Yxj{L:List UInt8}{a:Nat}{W:Int}(h:a+2≤L.length)(hW:0≤W∧W<65536):w2 (Y5 L a (by2 W)) a=W:=by
 have g:∀(j:Nat)(b:UInt8),(by2 W)[j]?=some b→Js (Y5 L a (by2 W)) (a+j)=Int.ofNat b.toNat:=fun j b hb=>Zo5 h hb
 unfold w2
 rw[show Js (Y5 L a (by2 W)) a=_ from g 0 _ rfl,g 1 _ rfl]
 simp only[Zv7]
 exact Yje hW
theorem Ki(L:List UInt8)(i:Nat):0≤Js L i∧Js L i<256:=by
 unfold Js
 have:=(L[i]?.getD 0).toNat_lt
 constructor
 ·exact Int.natCast_nonneg _
 ·show((L[i]?.getD 0).toNat:Int)<256;omega
theorem Zzh(L:List UInt8)(a:Nat):0≤w4 L a∧w4 L a<4294967296:=by
 unfold w4
 rw[Zzl (Ki L _) (Ki L _) (Ki L _) (Ki L _)]
 have h0:=Ki L a
 have h1:=Ki L (a+1)
 have h2:=Ki L (a+2)
 have h3:=Ki L (a+3)
 omega
end
end Go.Vai
end
section
namespace Go.Vai
open Go.RowKit
theorem Zpc:∀{vs:List AV},(∀ v∈vs,∃ x:Int,v=.int .u8 x∧0≤x∧x<256)→∃ L:List UInt8,vs=L.map Z3
 |[],_=>⟨[],rfl⟩
 |v::vs,h=>by
  obtain⟨x,rfl,h0,h1⟩:=h v List.mem_cons_self
  obtain⟨L,rfl⟩:=Zpc fun u hu=>h u (List.mem_cons_of_mem _ hu)
  refine⟨UInt8.ofNat x.toNat::L,?_⟩
  rw[List.map_cons]
  congr 1
  unfold Z3
  congr 1
  rw[UInt8.toNat_ofNat',Nat.mod_eq_of_lt (by omega)]
  exact(Int.toNat_of_nonneg h0).symm
section
variable {H:Type} {enc:TypeId×Value→H} {P:Program} {w:World} {base:Nat} {spare:Nat→Bool} {held:Bool}
theorem bytes_at{len:Nat}{vs:List AV}(h:Znt [.int .u8] len vs){i:Nat}(hi:i<len):∃ x,vs[i]?=some (.int .u8 x):=by
 have h2:=h.2 i hi
 obtain⟨b0,r0,f0,g0,_⟩:=h2.cons_inv
 obtain⟨x,rfl⟩:=CK.int_inv g0
 refine⟨x,?_⟩
 have:((vs.drop (i*1)).take 1)[0]?=some (.int .u8 x):=by
  rw[show(vs.drop (i*1)).take 1=_ from f0];rfl
 rw[List.getElem?_take,if_pos (by decide),List.getElem?_drop] at this
 simpa using this
theorem Yd9{t e:TypeId}{v:Value}{d:DataW H}{ps:List MemPlace}{dd:Nat}(hu:P.underlying t=some (.slice e))(he:P.underlying e=some (.int .u8))(hk:Zji P dd e=some [.int .u8])(hc:P.cellsOf e=1)
  (hv:Value.okWide P w .any 0 t v) (hd:DataW.Trod enc P w base spare held t v d ps):v=.slice none 0 0∨(∃ a cap,v=.slice (some a) 0 cap) ∨
  ∃(len cap:Nat)(vs:List AV)(m:MEnt),0<len∧len≤cap∧vs.length=len∧Jc [] m w (.cells len (Tr.nil.putAll 0 vs) 0 none 0 true false)∧(∀ M (id:Nat),M[id]?=some m→Zm M (.sl id 0 len (some cap)) v)∧(len<1000000→∃ L:List UInt8,vs=L.map Z3):=by
 rcases Ypn hu hk hc (by decide) hv hd with rfl|⟨a,cap,rfl⟩|⟨len,cap,vs,m,hl0,⟨a,rfl⟩,hlc,hs,hrel,hvr⟩
 ·exact .inl rfl
 ·exact .inr (.inl ⟨a,cap,rfl⟩)
 refine .inr (.inr ⟨len,cap,vs,m,hl0,hlc,by simpa using hs.1,by simpa using hrel,hvr,fun hlen=>?_⟩)
 obtain⟨m2,c2,hm2,e2,_,_⟩:=hvr [m] 0 rfl
 cases hm2
 simp only[Value.slice.injEq,Option.some.injEq] at e2
 obtain⟨rfl,_,_⟩:=e2
 obtain⟨cur,e',lo,hi,hh,_,hsz,_,_,_,hcell⟩:=hrel
 obtain⟨n,hn⟩:=hd
 rcases DataW.trod_slice hu hn with⟨h1,_⟩|⟨a2,len2,cap2,elems,rest,m3,_,h1,_,_,h2,h3,h4,h5,_⟩
 ·simp[Value.cells] at h1
 simp only[Value.cells,List.cons.injEq,Value.slice.injEq,Option.some.injEq,and_true] at h1
 obtain⟨rfl,rfl,rfl⟩:=h1
 refine Zpc fun u hu2=>?_
 obtain⟨i,hi,rfl⟩:=List.getElem_of_mem hu2
 have hil:i<len:=by rw[hs.1] at hi;simpa using hi
 obtain⟨x,hx⟩:=bytes_at hs hil
 have hx2:vs[i]=.int .u8 x:=by
  rw[List.getElem?_eq_getElem hi,Option.some.injEq] at hx
  exact hx
 refine⟨x,hx2,?_⟩
 have hvl:vs.length=len:=by simpa using hs.1
 have hget:(Tr.nil.putAll 0 vs).get i=some (.int .u8 x):=by
  rw[Tr.get_putAll_eq _ _ _ _ (by omega),if_pos (by omega),Nat.sub_zero]
  exact hx
 obtain⟨_,cv,c1,c2⟩:=hcell i _ hget
 simp only[Zm] at c2
 subst c2
 have h6:=h5 i hil
 rw[List.getElem?_eq_getElem (by omega),Option.bind_eq_some_iff] at h6
 obtain⟨cs,d1,d2⟩:=h6
 obtain⟨y,rfl,_,hw⟩:=DataW.trod_int he d2
 obtain⟨_,hl1,hc1⟩:=World.cells?_some d1
 have h7:=hc1 0 (by rw[hc];decide)
 rw[hc] at h7
 rw[Zzo,Zzo] at h7
 unfold World.cell? at h7
 simp only[hh] at h7
 have h8:cur[m.base+i]?=some (.int .u8 y):=by simpa using h7
 rw[c1] at h8
 simp only[Option.some.injEq,Value.int.injEq,true_and] at h8
 subst h8
 unfold Lit.wf at hw
 rw[Bool.and_eq_true,decide_eq_true_eq,decide_eq_true_eq] at hw
 have a0:IntKind.u8.min=0:=by decide
 have a1:IntKind.u8.max=255:=by decide
 rw[a0,a1] at hw
 omega
end
end Go.Vai
end
namespace Go.Proofs.YtaakhjmfojoodaaGreatDoor
open Go Go.Vai Go.Shelf
set_option maxRecDepth 100000
def Zmz:Go.Shelf.Ren:=⟨fun | 144=>21 | 143=>47 | 219=>76 | 217=>122 | 225=>123 | 224=>124 | 267=>125 | 266=>164 | 314=>165 | n=>n,fun | 9=>9 | 4=>4 | 3=>3 | 5=>5 | 46=>116 | 146=>235 | 51=>106 | n=>n,fun | 1=>0 | n=>n⟩
theorem Z7g:Go.Proofs.LaysM.n144 Tryz.prog Zmz:=
 {
 mixed:=by kernel_rfl,
 f143:=Tryz.func47.trans (congrArg some (by kernel_rfl)),
 f144:=Tryz.func21.trans (congrArg some (by kernel_rfl)),
 f217:=Tryz.func122.trans (congrArg some (by kernel_rfl)),
 f219:=Tryz.func76.trans (congrArg some (by kernel_rfl)),
 f224:=Tryz.func124.trans (congrArg some (by kernel_rfl)),
 f225:=Tryz.func123.trans (congrArg some (by kernel_rfl)),
 f266:=Tryz.func164.trans (congrArg some (by kernel_rfl)),
 f267:=Tryz.func125.trans (congrArg some (by kernel_rfl)),
 f314:=Tryz.func165.trans (congrArg some (by kernel_rfl)),
 t3:=Tryz.underlying3,
 a3:=Tryz.isAgg3,
 z3:=Tryz.sizeOf3,
 v3:=Tryz.zeroValue3,
 t4:=Tryz.underlying4,
 a4:=Tryz.isAgg4,
 z4:=Tryz.sizeOf4,
 v4:=Tryz.zeroValue4,
 t5:=Tryz.underlying5,
 a5:=Tryz.isAgg5,
 z5:=Tryz.sizeOf5,
 v5:=Tryz.zeroValue5,
 t9:=Tryz.underlying9,
 a9:=Tryz.isAgg9,
 z9:=Tryz.sizeOf9,
 v9:=Tryz.zeroValue9,
 t46:=Tryz.underlying116,
 a46:=Tryz.isAgg116,
 z46:=Tryz.sizeOf116,
 v46:=Tryz.zeroValue116,
 t51:=Tryz.underlying106,
 a51:=Tryz.isAgg106,
 z51:=Tryz.sizeOf106,
 v51:=Tryz.zeroValue106,
 t146:=Tryz.underlying235,
 a146:=Tryz.isAgg235,
 z146:=Tryz.sizeOf235,
 v146:=Tryz.zeroValue235,
 g1:=by kernel_rfl,
 i3:=by kernel_rfl,
 i4:=by kernel_rfl,
 i5:=by kernel_rfl,
 i9:=by kernel_rfl,
 i46:=by kernel_rfl,
 i51:=by kernel_rfl,
 i146:=by kernel_rfl,
 m1:=by kernel_rfl,
 s1_3:=fun w h=>Go.Proofs.cell_of_shapedOpen_int (zero:=#[.int .i64 0]) (t:=3) h (of_decide_eq_true (by kernel_rfl)) (by kernel_rfl) rfl (by kernel_rfl) (by kernel_rfl) Tryz.underlying3}
def qi(n:Nat):Option AV:=some (.int .i64 (.ofNat n))
def qh(n:Nat):Option AV:=some (.int .u16 (.ofNat n))
def qb(n:Nat):Option AV:=some (.int .u8 (.ofNat n))
def qs(s:List UInt8):Option AV:=some (.str s)
def qt:Option AV:=some (.bool true)
def qf:Option AV:=some (.bool false)
def kinds:List (Nat×Nat×Nat):=[(164,1,0),(194,3,0),(195,4,5)]
def Y4i:List AV:=(List.range 256).map fun i=>.int .u8 (if i=32∨(9≤i∧i≤13) then 1 else 0)
def gl:List (Nat×List AV):=[(0,[.opq (some .i64)]),(1,Y4i),(4,[.opq none]),(5,[.opq none])]
theorem V4:Ylu Tryz.prog kinds=true:=by kernel_rfl
theorem Xw:Tryz.prog.follows .mixedOrders=true:=by kernel_rfl
theorem Ww:(gl.all fun x=>Nat.blt x.1 12)=true:=by kernel_rfl
theorem Zbi:Zr Tryz.prog gl (Jm 21):=Yt6 Z7g.ton144 (by rw[show Zmz.g 1=0 by kernel_rfl];exact .head _)
noncomputable def E1 : Env := Q0 Tryz.prog 12 [21] (Z9 (Vy kinds) (Jm 21))
theorem Ky(w:World)(hw:Z4 gl w):EnvOk E1 Tryz.prog (Kept gl w):=Xv (by kernel_rfl) ((Xx V4).or Zbi) Xw (fun _ _ _ h=>h.1) (Zz hw).ext
end Go.Proofs.YtaakhjmfojoodaaGreatDoor
