/- The tree form of the whole interpreter: regions, loops, ranges over functions, calls, panics, deferred calls.
Trees whose branches may be named ahead ('Orc'): what they say,the interpreter answers.
What a function's body is shown to do from known memory,as a summary of its call in whatever memory.
Trees that are sound by themselves: branches may be named ahead ('Orc'),and where a map's order is open all orders are gone through. -/
import Derived.Test.YtaakhjmfojoodaaGreatDoorVaiF
section
namespace Go.Vai
noncomputable section
theorem Tr.setF_same{β:Type}:∀(f:Nat)(t:Tr β)(i:Nat)(x:β),i+1<2 ^ f→t.get i=some x→Tr.setF f t i (some x)=t:=by
 intro f
 induction f with
 |zero=>intro t i x h;omega
 |succ f ih=>
  intro t i x h hg
  cases t with
  |nil=>simp[Tr.get_nil] at hg
  |node v l r=>
   cases i with
   |zero=>rw[Tr.get_zero] at hg;rw[Tr.setF_tz,hg]
   |succ i=>
    have hi:i / 2+1<2 ^ f:=by rw[Nat.pow_succ] at h;omega
    rw[Tr.get_succ] at hg
    rw[Tr.setF_ts]
    cases hb:Nat.beq (i % 2) 0 with
    |true=>rw[hb] at hg;simp only[cond_true] at hg ⊢;rw[ih l _ x hi hg]
    |false=>rw[hb] at hg;simp only[cond_false] at hg ⊢;rw[ih r _ x hi hg]
theorem Tr.set_same{β:Type}{t:Tr β}{i:Nat}{x:β}(h:i<1000001)(hg:t.get i=some x):t.set i x=t:=Tr.setF_same 48 t i x (by omega) hg
section
variable {α:Type}
abbrev KC(α:Type):=AExit→AFr→AHeap→Option α
abbrev Cl(α:Type):=Task→(TRes→Option α)→Option α
def Zhm(cl:Cl α)(ih:Task→Option TRes):Prop:=∀ t k r,cl t k=some r→∃ x,ih t=some x∧k x=some r
def Zr4(fr:AFr)(d:Nat)(b:Bool):AFr:=⟨fr.n,fr.t.set d (.bool b),fr.df,fr.rd⟩
theorem Z9q{fr:AFr}{d:Nat}{b:Bool}(h:d<1000001)(hg:fr.t.get d=some (.bool b)):Zr4 fr d b=fr:=by
 unfold Zr4
 rw[Tr.set_same h hg]
def Yzc(fr:AFr)(d:Nat)(want:Bool)(kt kf:AFr→Option α):AV→Option α
 |.bool b=>bc (Nat.blt d 1000001) (bc b (bc want (kt (Zr4 fr d true)) (kf (Zr4 fr d true))) (bc want (kf (Zr4 fr d false)) (kt (Zr4 fr d false)))) none
 |.tup _=>kf fr
 |_=>none
def Zxp(all:Array Oper)(fr:AFr)(kt kf:AFr→Option α):Option (Nat×Bool)→Option α
 |none=>kt fr
 |some (j,want)=>match(all[j]?).bind (·.dst) with
  |none=>kf fr
  |some d=>ob (fr.t.get d) fun v=>Yzc fr d want kt kf v
theorem Zmh{all:Array Oper}{fr:AFr}{kt kf:AFr→Option α}{o:Oper}{r:α}(h:Zxp all fr kt kf o.guard=some r):(X3 all fr.t o=some true∧kt fr=some r)∨(X3 all fr.t o=some false∧kf fr=some r):=by
 unfold X3
 cases hg:o.guard with
 |none=>rw[hg] at h;exact .inl ⟨rfl,h⟩
 |some g=>
  obtain⟨j,want⟩:=g
  rw[hg] at h
  simp only[Zxp] at h ⊢
  cases hd:(all[j]?).bind (·.dst) with
  |none=>rw[hd] at h;exact .inr ⟨rfl,h⟩
  |some d=>
   rw[hd] at h
   simp only at h ⊢
   obtain⟨v,hv,h⟩:=Zq h
   rw[hv]
   cases v <;> try (cases h;done)
   case bool b=>
    simp only[Yzc] at h
    obtain⟨hlt,h⟩:=Zo h
    rw[Nat.blt_eq] at hlt
    have e:=Z9q hlt hv
    cases b with
    |true=>
     simp only[Ym,e] at h
     cases want with
     |true=>exact .inl ⟨rfl,h⟩
     |false=>exact .inr ⟨rfl,h⟩
    |false=>
     simp only[Yg,e] at h
     cases want with
     |true=>exact .inr ⟨rfl,h⟩
     |false=>exact .inl ⟨rfl,h⟩
   case tup l=>exact .inr ⟨rfl,h⟩
def Ytg(k:AV→AHeap→Option α)(kp:AV→AHeap→Option α):TRes→Option α
 |.call (.ret v H)=>k v H
 |.call (.pan v H)=>kp v H
 |_=>none
def Yi8(k:AV→AHeap→Option α):TRes→Option α
 |.call (.ret v H)=>k v H
 |_=>none
def Y3p(cl:Cl α)(H:AHeap)(k kp:AV→AHeap→Option α)(kd:FuncId→List AV→Option α):ARes→Option α
 |.val v H=>k v H
 |.skip H=>k Wj H
 |.panic v H=>kp v H
 |.call f args=>cl (.call f args H) (Ytg k kp)
 |.ycall id args=>cl (.yield id args H) (Yi8 k)
 |.defer f args=>kd f args
theorem Zsp{cl:Cl α}{ih:Task→Option TRes}(hc:Zhm cl ih){H:AHeap}{k kp:AV→AHeap→Option α}{kd:FuncId→List AV→Option α}{x:ARes}{r:α}(h:Y3p cl H k kp kd x=some r) :
  (∃ v H',(Xk ih H x=some (.val v H')∨(Xk ih H x=some (.skip H')∧v=Wj))∧k v H'=some r)∨(∃ v H',Xk ih H x=some (.panic v H')∧kp v H'=some r)∨(∃ f args,Xk ih H x=some (.defer f args)∧kd f args=some r):=by
 cases x with
 |val v H1=>exact .inl ⟨v,H1,.inl rfl,h⟩
 |skip H1=>exact .inl ⟨Wj,H1,.inr ⟨rfl,rfl⟩,h⟩
 |panic v H1=>exact .inr (.inl ⟨v,H1,rfl,h⟩)
 |defer f args=>exact .inr (.inr ⟨f,args,rfl,h⟩)
 |call f args=>
  obtain⟨y,hy,h1⟩:=hc _ _ _ h
  cases y with
  |call c=>
   cases c with
   |ret v H1=>exact .inl ⟨v,H1,.inl (by simp[Xk,hy]),h1⟩
   |pan v H1=>exact .inr (.inl ⟨v,H1,by simp[Xk,hy],h1⟩)
  |code=>cases h1
  |dcall=>cases h1
 |ycall id args=>
  obtain⟨y,hy,h1⟩:=hc _ _ _ h
  cases y with
  |call c=>
   cases c with
   |ret v H1=>exact .inl ⟨v,H1,.inl (by simp[Xk,hy]),h1⟩
   |pan v H1=>cases h1
  |code=>cases h1
  |dcall=>cases h1
def Yny(k:AFr→AHeap→Option α)(o:Oper)(fr:AFr)(H:AHeap)(f:FuncId)(args:List AV):Option α:=bc fr.rd none (k (Zc2 ⟨fr.n,fr.t,.call f args::fr.df,fr.rd⟩ o.dst Wj) H)
def opT(E:Env)(cl:Cl α)(all:Array Oper)(o:Oper)(kp:AV→AFr→AHeap→Option α)(k:AFr→AHeap→Option α):AFr→AHeap→Option α:=fun fr H=>
 Zxp all fr (fun fr=>kOp o E H fr.t fun x=>Y3p cl H (fun v H=>k (Zc2 fr o.dst v) H) (fun v H=>kp v fr H) (Yny k o fr H) x) (fun fr=>k (Zc2 fr o.dst Wj) H) o.guard
def Y0z(E:Env)(cl:Cl α)(all:Array Oper)(k:KC α)(l:List Oper):AFr→AHeap→Option α:=
 List.rec (motive:=fun _=>AFr→AHeap→Option α) (k .normal) (fun o _ ih=>opT E cl all o (fun v fr H=>k (.panic v) fr H) ih) l
theorem Ydw{E:Env}{cl:Cl α}{ih:Task→Option TRes}(hc:Zhm cl ih){all:Array Oper}{k:KC α}:∀{l:List Oper}{fr:AFr}{H:AHeap}{r:α},Y0z E cl all k l fr H=some r →
  ∃ e fr' H',Za6 E ih all l fr H=some (.code e fr' H')∧k e fr' H'=some r:=by
 intro l
 induction l with
 |nil=>intro fr H r h;exact⟨.normal,fr,H,rfl,h⟩
 |cons o l ihl=>
  intro fr H r h
  have h':opT E cl all o (fun v fr H=>k (.panic v) fr H) (Y0z E cl all k l) fr H=some r:=h
  simp only[Za6]
  rcases Zmh h' with⟨hw,h1⟩|⟨hw,h1⟩
  ·obtain⟨x,hx,h2⟩:=Zgj h1
   simp only[hw,hx]
   rcases Zsp hc h2 with⟨y,H1,hy,h3⟩|⟨y,H1,hy,h3⟩|⟨f,args,hy,h3⟩
   ·rw[V1] at h3
    obtain⟨e,fr',H',e1,e2⟩:=ihl h3
    refine⟨e,fr',H',?_,e2⟩
    rcases hy with hy|⟨hy,rfl⟩
    ·simp only[hy];exact e1
    ·simp only[hy];exact e1
   ·exact⟨_,_,_,by simp only[hy],h3⟩
   ·unfold Yny at h3
    rcases Y0 h3 with⟨_,h4⟩|⟨hrd,h4⟩
    ·cases h4
    ·rw[V1] at h4
     obtain⟨e,fr',H',e1,e2⟩:=ihl h4
     exact⟨e,fr',H',by simp only[hy,hrd,cond_false];rw[hrd] at e1;exact e1,e2⟩
  ·rw[V1] at h1
   obtain⟨e,fr',H',e1,e2⟩:=ihl h1
   exact⟨e,fr',H',by simp only[hw];exact e1,e2⟩
abbrev DK(α:Type):=Nat→List QRec→List ERec→AFr→AHeap→Option α
def Z71(x:ARes)(v:AV):Bool:=match x with
 |.val u _=>AV.eqb u v
 |_=>false
def Yo9(E:Env)(o:Oper)(fr:Tr AV)(v:AV)(H:AHeap)(rest:Option α):Option α:=kOp o E H fr fun x=>bc (Z71 x v) rest none
def Ym3(E:Env)(o:Oper)(fr:Tr AV)(v:AV)(m:Nat)(rest:Option α)(es:List ERec):Option α:=List.rec (motive:=fun _=>Option α) rest (fun e _ ih=>bc (Xu m e.j) ih (Yo9 E o fr v e.H ih)) es
def Yih(E:Env)(H:AHeap)(m:Nat)(rest:Option α)(qs:List QRec):Option α:=List.rec (motive:=fun _=>Option α) rest (fun q _ ih=>bc (Xu m q.i) ih (Yo9 E q.o q.fr q.v H ih)) qs
theorem Zuc{E:Env}{o:Oper}{fr:Tr AV}{v:AV}{H:AHeap}{rest:Option α}{r:α}(i:Nat)(h:Yo9 E o fr v H rest=some r):sameAt E H ⟨i,o,fr,v⟩=true∧rest=some r:=by
 obtain⟨x,hx,h1⟩:=Zgj h
 obtain⟨h2,h3⟩:=Zo h1
 unfold Z71 at h2
 split at h2
 ·rename_i u H1
  exact⟨by simp only[sameAt,Ke,hx];exact h2,h3⟩
 ·cases h2
theorem Ztx{E:Env}{o:Oper}{fr:Tr AV}{v:AV}{m:Nat}{rest:Option α}{r:α}(i:Nat):∀{es:List ERec},Ym3 E o fr v m rest es=some r→Zb1 E ⟨i,o,fr,v⟩ m es=true∧rest=some r:=by
 intro es
 induction es with
 |nil=>intro h;exact⟨rfl,h⟩
 |cons e es ih=>
  intro h
  have h':bc (Xu m e.j) (Ym3 E o fr v m rest es) (Yo9 E o fr v e.H (Ym3 E o fr v m rest es))=some r:=h
  rcases Y0 h' with⟨hb,h1⟩|⟨_,h1⟩
  ·obtain⟨a,b⟩:=ih h1
   exact⟨by simp only[Zb1,hb,a,Bool.true_or,Bool.and_self],b⟩
  ·obtain⟨c,h2⟩:=Zuc i h1
   obtain⟨a,b⟩:=ih h2
   exact⟨by simp only[Zb1,c,a,Bool.or_true,Bool.and_self],b⟩
theorem Zsl{E:Env}{H:AHeap}{m:Nat}{rest:Option α}{r:α}:∀{qs:List QRec},Yih E H m rest qs=some r→Ka E H m qs=true∧rest=some r:=by
 intro qs
 induction qs with
 |nil=>intro h;exact⟨rfl,h⟩
 |cons q qs ih=>
  intro h
  have h':bc (Xu m q.i) (Yih E H m rest qs) (Yo9 E q.o q.fr q.v H (Yih E H m rest qs))=some r:=h
  rcases Y0 h' with⟨hb,h1⟩|⟨_,h1⟩
  ·obtain⟨a,b⟩:=ih h1
   exact⟨by simp only[Ka,hb,a,Bool.true_or,Bool.and_self],b⟩
  ·obtain⟨c,h2⟩:=Zuc q.i h1
   obtain⟨a,b⟩:=ih h2
   exact⟨by simp only[Ka,c,a,Bool.or_true,Bool.and_self],b⟩
def Y62(E:Env)(cl:Cl α)(an:Tr Nat)(all:Array Oper)(fr0:AFr)(o:Oper)(rest:List Oper)(i m:Nat)(qs:List QRec)(es:List ERec)(fr:AFr)(H:AHeap)(q:Bool)(kc:KC α)(k:DK α)(x:ARes):Option α:=
 bc q (match x with
   |.val v H'=>Ym3 E o fr.t v m (k (i+1) (⟨i,o,fr.t,v⟩::qs) es (Zc2 fr o.dst v) H') es
   |_=>none)
  (Y3p cl H (fun v H'=>Yih E H' m (k (i+1) qs (⟨i,H⟩::es) (Zc2 fr o.dst v) H') qs) (fun v H'=>bc (Zf1 an i rest (i+1)) (kc (.panic v) ⟨fr0.n,Zc8 fr0.t all.toList,fr0.df,fr0.rd⟩ H') none) (fun _ _=>none) x)
def Y93(E:Env)(cl:Cl α)(an:Tr Nat)(all:Array Oper)(fr0:AFr)(kc:KC α)(o:Oper)(rest:List Oper)(k:DK α):DK α:=fun i qs es fr H=>
 Zxp all fr (fun fr=>ob (an.get i) fun m=>kOp o E H fr.t fun x=>Y62 E cl an all fr0 o rest i m qs es fr H (Xg E o.op) kc k x) (fun fr=>k (i+1) qs es (Zc2 fr o.dst Wj) H) o.guard
def Yoj(E:Env)(cl:Cl α)(an:Tr Nat)(all:Array Oper)(fr0:AFr)(kc:KC α)(l:List Oper):DK α:=
 List.rec (motive:=fun _=>DK α) (fun _ _ _ fr H=>kc .normal fr H) (fun o rest k=>Y93 E cl an all fr0 kc o rest k) l
theorem Z5r{E:Env}{cl:Cl α}{ih:Task→Option TRes}(hc:Zhm cl ih){an:Tr Nat}{all:Array Oper}{fr0:AFr}{kc:KC α}:∀{l:List Oper}{i:Nat}{qs:List QRec}{es:List ERec}{fr:AFr}{H:AHeap}{r:α},
  Yoj E cl an all fr0 kc l i qs es fr H=some r→∃ e fr' H',Zgg E ih all an fr0 l i qs es fr H=some (.code e fr' H')∧kc e fr' H'=some r:=by
 intro l
 induction l with
 |nil=>intro i qs es fr H r h;exact⟨.normal,fr,H,rfl,h⟩
 |cons o l ihl=>
  intro i qs es fr H r h
  have h':Y93 E cl an all fr0 kc o l (Yoj E cl an all fr0 kc l) i qs es fr H=some r:=h
  simp only[Zgg]
  rcases Zmh h' with⟨hw,h1⟩|⟨hw,h1⟩
  ·obtain⟨m,hm,h2⟩:=Zq h1
   obtain⟨x,hx,h3⟩:=Zgj h2
   unfold Y62 at h3
   cases hq:Xg E o.op with
   |true=>
    rw[hq,Ym] at h3
    cases x <;> try (cases h3;done)
    rename_i v H1
    obtain⟨ha,h4⟩:=Ztx i h3
    rw[V1] at h4
    have hH:=Zii hq hx
    obtain⟨e,fr',H',e1,e2⟩:=ihl (qs:=⟨i,o,fr.t,v⟩::qs) (es:=es) h4
    refine⟨e,fr',H',?_,e2⟩
    simp only[hw,hm,hx,cond_true,ha]
    rw[hH] at e1
    exact e1
   |false=>
    rw[hq,Yg] at h3
    rcases Zsp hc h3 with⟨y,H1,hy,h5⟩|⟨y,H1,hy,h5⟩|⟨f,args,hy,h5⟩
    ·obtain⟨ha,h6⟩:=Zsl h5
     rw[V1] at h6
     obtain⟨e,fr',H',e1,e2⟩:=ihl (qs:=qs) (es:=⟨i,H⟩::es) h6
     refine⟨e,fr',H',?_,e2⟩
     simp only[hw,hm,hx,cond_false]
     rcases hy with hy|⟨hy,rfl⟩
     ·simp only[hy,ha,cond_true];exact e1
     ·simp only[hy,ha,cond_true];exact e1
    ·obtain⟨h6,h7⟩:=Zo h5
     exact⟨_,_,_,by simp only[hw,hm,hx,cond_false,hy,h6,cond_true],h7⟩
    ·cases h5
  ·rw[V1] at h1
   obtain⟨e,fr',H',e1,e2⟩:=ihl h1
   exact⟨e,fr',H',by simp only[hw];exact e1,e2⟩
def Y04(E:Env)(cl:Cl α)(ops:Array Oper)(draw:Bool)(k:KC α):AFr→AHeap→Option α:=fun fr H=>
 bc draw (ob (Zqh ops.toList 0 .nil) fun an=>bc (Zn4 E an ops.toList&&(Nat.ble fr.n 1000000&&Nat.ble ops.size 1000000)) (Yoj E cl an ops fr k ops.toList 0 [] [] fr H) none) (Y0z E cl ops k ops.toList fr H)
theorem Ybf{E:Env}{cl:Cl α}{ih:Task→Option TRes}(hc:Zhm cl ih){ops:Array Oper}{draw:Bool}{k:KC α}{fr:AFr}{H:AHeap}{r:α}(h:Y04 E cl ops draw k fr H=some r) :
  ∃ e fr' H',Zde E ih ops draw fr H=some (.code e fr' H')∧k e fr' H'=some r:=by
 unfold Y04 at h
 unfold Zde
 cases draw with
 |false=>rw[Yg] at h;exact Ydw hc h
 |true=>
  rw[Ym] at h
  obtain⟨an,han,h1⟩:=Zq h
  obtain⟨hb,h2⟩:=Zo h1
  obtain⟨e,fr',H',e1,e2⟩:=Z5r (qs:=[]) (es:=[]) (fr0:=fr) hc h2
  refine⟨e,fr',H',?_,e2⟩
  simp only[cond_true,han,hb]
  exact e1
abbrev CK'(α:Type):=KC α→AFr→AHeap→Option α
def Yve(k:KC α):TRes→Option α
 |.code e fr H=>k e fr H
 |_=>none
def Z8a(b:CK' α)(k:KC α):KC α:=fun e fr H=>AExit.rec (motive:=fun _=>Option α) (b k fr H) (fun id=>k (.exit id) fr H) (k .ret fr H) (fun v=>k (.panic v) fr H) e
def Yqn(a b:CK' α)(k:KC α)(fr:AFr)(H:AHeap):AV→Option α
 |.bool c=>bc c (a k fr H) (b k fr H)
 |_=>none
def Z78(id:Nat)(k:KC α):KC α:=fun e fr H=>AExit.rec (motive:=fun _=>Option α) (k .normal fr H) (fun i=>bc (Nat.beq i id) (k .normal fr H) (k (.exit i) fr H)) (k .ret fr H) (fun v=>k (.panic v) fr H) e
def Ynb(cl:Cl α)(c:Code)(k:KC α):KC α:=fun e fr H=>AExit.rec (motive:=fun _=>Option α) (cl (.code (.loop c) fr H) (Yve k)) (fun id=>k (.exit id) fr H) (k .ret fr H) (fun v=>k (.panic v) fr H) e
def Z0q(k:KC α)(fr:AFr)(nx:Nat):TRes→Option α
 |.call (.ret _ H')=>match H'.get (nx+1) with
  |some (.loop .busy _ _ _ _ _ _ _)=>none
  |some (.loop _ none n t p a b d)=>k .normal ⟨fr.n,fr.t,.mark nx::fr.df,fr.rd⟩ (H'.put (nx+1) (.loop .exhausted none n t p a b d))
  |some (.loop _ (some .ret) n t p a b d)=>k .ret ⟨fr.n,fr.t,.mark nx::fr.df,fr.rd⟩ (H'.put (nx+1) (.loop .exhausted (some .ret) n t p a b d))
  |some (.loop _ (some (.exit i)) n t p a b d)=>k (.exit i) ⟨fr.n,fr.t,.mark nx::fr.df,fr.rd⟩ (H'.put (nx+1) (.loop .exhausted (some (.exit i)) n t p a b d))
  |_=>none
 |_=>none
def Ymp(E:Env)(cl:Cl α)(ps:Array Nat)(assign body:Code)(k:KC α)(fr:AFr)(H:AHeap):AV→Option α
 |.fn g first cap=>ob (E.fn g) fun _=>cl (.call g (first++(.yld (H.next+1)::cap)) ((H.new .dfr).new (.loop .ready none fr.n fr.t ps.toList assign body H.next))) (Z0q k fr H.next)
 |_=>none
def Kc(E:Env)(cl:Cl α)(c:Code):CK' α:=
 Code.rec (motive:=fun _=>CK' α) (fun k fr H=>k .normal fr H) (fun _ ops draw k=>Y04 E cl ops draw k) (fun _ _ a b k=>a (Z8a b k)) (fun c _ _ a b k fr H=>ob (Wy E fr.t c) fun v=>Yqn a b k fr H v) (fun id _ a k=>a (Z78 id k)) (fun c a k=>a (Ynb cl c k))
  (fun f ps assign body _ _ k fr H=>bc fr.rd none (ob (Wy E fr.t f) fun v=>Ymp E cl ps assign body k fr H v)) (fun id k fr H=>k (.exit id) fr H) (fun _ _ _ _ _=>none) (fun _ k fr H=>k .normal fr H) (fun _ _ _ _=>none) (fun k fr H=>k .ret fr H) (fun _ _ _ _=>none) c
theorem Qo{E:Env}{cl:Cl α}{ih:Task→Option TRes}(hc:Zhm cl ih):∀(c:Code)(k:KC α)(fr:AFr)(H:AHeap)(r:α),Kc E cl c k fr H=some r→∃ e fr' H',Y3 E ih c fr H=some (.code e fr' H')∧k e fr' H'=some r:=by
 intro c
 induction c with
 |skip=>intro k fr H r h;exact⟨_,_,_,rfl,h⟩
 |region id ops draw=>intro k fr H r h;exact Ybf hc h
 |seq a b iha ihb=>
  intro k fr H r h
  obtain⟨e,fr1,H1,e1,e2⟩:=iha (Z8a (Kc E cl b) k) fr H r h
  simp only[Y3,e1]
  cases e with
  |normal=>exact ihb k fr1 H1 r e2
  |exit i=>exact⟨_,_,_,rfl,e2⟩
  |ret=>exact⟨_,_,_,rfl,e2⟩
  |panic v=>exact⟨_,_,_,rfl,e2⟩
 |cond c a b iha ihb=>
  intro k fr H r h
  have h':(ob (Wy E fr.t c) fun v=>Yqn (Kc E cl a) (Kc E cl b) k fr H v)=some r:=h
  rw[Y1] at h'
  obtain⟨v,hv,h1⟩:=Zq h'
  simp only[Y3,hv]
  cases v <;> try (cases h1;done)
  rename_i t
  simp only[Yqn] at h1
  cases t with
  |true=>exact iha k fr H r h1
  |false=>exact ihb k fr H r h1
 |block id a iha=>
  intro k fr H r h
  obtain⟨e,fr1,H1,e1,e2⟩:=iha (Z78 id k) fr H r h
  simp only[Y3,e1]
  cases e with
  |normal=>exact⟨_,_,_,rfl,e2⟩
  |ret=>exact⟨_,_,_,rfl,e2⟩
  |panic v=>exact⟨_,_,_,rfl,e2⟩
  |exit i=>
   have e2':bc (Nat.beq i id) (k .normal fr1 H1) (k (.exit i) fr1 H1)=some r:=e2
   simp only
   cases hb:Nat.beq i id with
   |true=>rw[hb] at e2';exact⟨_,_,_,rfl,e2'⟩
   |false=>rw[hb] at e2';exact⟨_,_,_,rfl,e2'⟩
 |loop a iha=>
  intro k fr H r h
  obtain⟨e,fr1,H1,e1,e2⟩:=iha (Ynb cl a k) fr H r h
  simp only[Y3,e1]
  cases e with
  |normal=>
   obtain⟨x,hx,e3⟩:=hc _ _ _ e2
   cases x with
   |code e' fr' H'=>exact⟨e',fr',H',hx,e3⟩
   |call=>cases e3
   |dcall=>cases e3
  |exit i=>exact⟨_,_,_,rfl,e2⟩
  |ret=>exact⟨_,_,_,rfl,e2⟩
  |panic v=>exact⟨_,_,_,rfl,e2⟩
 |rangeFunc f ps a b _ _=>
  intro k fr H r h
  have h':bc fr.rd none (ob (Wy E fr.t f) fun v=>Ymp E cl ps a b k fr H v)=some r:=h
  rcases Y0 h' with⟨_,h'⟩|⟨hrd,h1⟩
  ·cases h'
  rw[Y1] at h1
  obtain⟨v,hv,h1⟩:=Zq h1
  simp only[Y3,hrd,cond_false,hv]
  cases v <;> try (cases h1;done)
  rename_i g first cap
  obtain⟨fn,hfn,h2⟩:=Zq h1
  obtain⟨x,hx,h3⟩:=hc _ _ _ h2
  simp only[hfn,hx]
  cases x with
  |code=>cases h3
  |dcall=>cases h3
  |call y=>
   cases y with
   |pan=>cases h3
   |ret v H'=>
    simp only[Z0q] at h3
    dsimp only
    have hfr:∀ l:List ADf,AFr.mk fr.n fr.t l fr.rd={ fr with df:=l}:=fun _=>rfl
    cases hg:H'.get (H.next+1) with
    |none=>rw[hg] at h3;cases h3
    |some o=>
     rw[hg] at h3
     cases o with
     |loop st pend n t p asz bo d=>
      cases st <;> first
       |(cases h3;done)
       |(cases pend with
        |none=>exact⟨_,_,_,rfl,by rw[hrd] at h3;exact h3⟩
        |some e=>
         cases e with
         |normal=>cases h3
         |exit i=>exact⟨_,_,_,rfl,by rw[hrd] at h3;exact h3⟩
         |ret=>exact⟨_,_,_,rfl,by rw[hrd] at h3;exact h3⟩
         |panic v=>cases h3)
     |_=>cases h3
 |exit id=>intro k fr H r h;exact⟨_,_,_,rfl,h⟩
 |scope c _=>intro k fr H r h;cases h
 |label l=>intro k fr H r h;exact⟨_,_,_,rfl,h⟩
 |goto l=>intro k fr H r h;cases h
 |ret=>intro k fr H r h;exact⟨_,_,_,rfl,h⟩
 |refuse w=>intro k fr H r h;cases h
def Ycv(E:Env)(fr:Tr AV)(H:AHeap)(l:List ResultVar):(List AV→Option α)→Option α:=
 List.rec (motive:=fun _=>(List AV→Option α)→Option α) (fun k=>k []) (fun x _ ih k=>match x with
  |.tmp t=>ob (fr.get t) fun v=>ih fun l=>k (v::l)
  |.cell a t=>ob (fr.get a) fun p=>Zo6 E H t (fun v=>ih fun l=>k (v::l)) p) l
theorem Zk0{E:Env}{fr:Tr AV}{H:AHeap}:∀{l:List ResultVar}{k:List AV→Option α}{r:α},Ycv E fr H l k=some r→∃ vs,K7 E fr H l=some vs∧k vs=some r:=by
 intro l
 induction l with
 |nil=>intro k r h;exact⟨[],rfl,h⟩
 |cons x l ihl=>
  intro k r h
  cases x with
  |tmp t=>
   have h':(ob (fr.get t) fun v=>Ycv E fr H l fun l=>k (v::l))=some r:=h
   obtain⟨v,hv,h1⟩:=Zq h'
   obtain⟨vs,hvs,h2⟩:=ihl h1
   exact⟨v::vs,by simp[K7,hv,hvs],h2⟩
  |cell a t=>
   have h':(ob (fr.get a) fun p=>Zo6 E H t (fun v=>Ycv E fr H l fun l=>k (v::l)) p)=some r:=h
   obtain⟨p,hp,h1⟩:=Zq h'
   obtain⟨v,hv,h2⟩:=Zmy h1
   obtain⟨vs,hvs,h3⟩:=ihl h2
   exact⟨v::vs,by simp[K7,hp,hv,hvs],h3⟩
def Z0d(k:Bool→AHeap→Option α):TRes→Option α
 |.dcall (.back taken H)=>k taken H
 |_=>none
def Zl0(E:Env)(cl:Cl α)(rs:List ResultVar)(t:Tr AV)(k:TRes→Option α)(ds:List ADf):Option AV→AHeap→Option α:=
 List.rec (motive:=fun _=>Option AV→AHeap→Option α)
  (fun p H=>match p with
   |none=>Ycv E t H rs fun l=>k (.call (.ret (Zn9 l) H))
   |some v=>k (.call (.pan v H)))
  (fun d _ ih p H=>match d with
   |.mark id=>(match H.get id with
    |some .dfr=>ih p (H.kill id)
    |_=>none)
   |.call f args=>cl (.dcall f args p H) (Z0d fun taken H=>ih (bc taken none p) H)) ds
theorem Zfg{E:Env}{cl:Cl α}{ih:Task→Option TRes}(hc:Zhm cl ih){rs:List ResultVar}{t:Tr AV}{k:TRes→Option α}:∀{ds:List ADf}{p:Option AV}{H:AHeap}{r:α},Zl0 E cl rs t k ds p H=some r →
  ∃ x,Qv E ih rs t ds p H=some x∧k x=some r:=by
 intro ds
 induction ds with
 |nil=>
  intro p H r h
  cases p with
  |none=>
   obtain⟨vs,hvs,h1⟩:=Zk0 h
   exact⟨_,by simp only[Qv,hvs],h1⟩
  |some v=>exact⟨_,rfl,h⟩
 |cons d ds ihd=>
  intro p H r h
  cases d with
  |mark id=>
   have h':(match H.get id with
    |some .dfr=>Zl0 E cl rs t k ds p (H.kill id)
    |_=>none)=some r:=h
   simp only[Qv]
   split at h'
   ·rename_i hg
    rw[hg]
    exact ihd h'
   ·cases h'
  |call f args=>
   have h':cl (.dcall f args p H) (Z0d fun taken H=>Zl0 E cl rs t k ds (bc taken none p) H)=some r:=h
   obtain⟨x,hx,h1⟩:=hc _ _ _ h'
   cases x with
   |code=>cases h1
   |call=>cases h1
   |dcall y=>
    obtain⟨taken,H'⟩:=y
    obtain⟨z,hz,h2⟩:=ihd h1
    rw[Ku] at hz
    exact⟨z,by simp only[Qv,hx];exact hz,h2⟩
def Y2o(E:Env)(cl:Cl α)(rs:List ResultVar)(k:TRes→Option α):KC α:=fun e fr H=>AExit.rec (motive:=fun _=>Option α) (Zl0 E cl rs fr.t k fr.df none H) (fun _=>none) (Zl0 E cl rs fr.t k fr.df none H) (fun v=>Zl0 E cl rs fr.t k fr.df (some v) H) e
def Ytt(E:Env)(rs:List ResultVar)(taken:Bool)(k:TRes→Option α)(fr:AFr)(H:AHeap):Option α:=
 match fr.df with
 |[]=>Ycv E fr.t H rs fun _=>k (.dcall (.back taken H))
 |_=>none
def Yum(E:Env)(rs:List ResultVar)(taken:Bool)(k:TRes→Option α):KC α:=fun e fr H=>AExit.rec (motive:=fun _=>Option α) (Ytt E rs taken k fr H) (fun _=>none) (Ytt E rs taken k fr H) (fun _=>none) e
theorem Zg7{E:Env}{rs:List ResultVar}{taken:Bool}{k:TRes→Option α}{e:AExit}{fr:AFr}{H:AHeap}{r:α}(h:Yum E rs taken k e fr H=some r):∃ x,Z00 E rs taken (some (.code e fr H))=some x∧k x=some r:=by
 have go:Ytt E rs taken k fr H=some r→(e=.normal∨e=.ret)→∃ x,Z00 E rs taken (some (.code e fr H))=some x∧k x=some r:=fun h he=>by
  unfold Ytt at h
  split at h
  case h_2=>cases h
  rename_i hd
  obtain⟨vs,hvs,h1⟩:=Zk0 h
  obtain⟨n,t,df,rd⟩:=fr
  simp only at hd hvs
  subst hd
  rcases he with rfl|rfl
  ·exact⟨_,by simp only[Z00,hvs],h1⟩
  ·exact⟨_,by simp only[Z00,hvs],h1⟩
 cases e with
 |normal=>exact go h (.inl rfl)
 |ret=>exact go h (.inr rfl)
 |exit=>cases h
 |panic=>cases h
def Zi9(id:Nat)(k:TRes→Option α):KC α:=fun e _ H2=>match H2.get id with
 |some (.loop _ _ m2 u2 ps2 as2 bo2 d2)=>AExit.rec (motive:=fun _=>Option α) (k (.call (.ret (.bool true) (H2.put id (.loop .ready none m2 u2 ps2 as2 bo2 d2))))) (fun i=>k (.call (.ret (.bool false) (H2.put id (.loop .done (some (.exit i)) m2 u2 ps2 as2 bo2 d2)))))
   (k (.call (.ret (.bool false) (H2.put id (.loop .done (some .ret) m2 u2 ps2 as2 bo2 d2))))) (fun _=>none) e
 |_=>none
def Z0k(E:Env)(cl:Cl α)(id:Nat)(body:Code)(k:TRes→Option α):KC α:=fun e fr1 H1=>match e with
 |.normal=>(match H1.get id with
  |some (.loop .ready pend1 m1 u1 ps1 as1 bo1 d1)=>Kc E cl body (Zi9 id k) fr1 (H1.put id (.loop .busy pend1 m1 u1 ps1 as1 bo1 d1))
  |_=>none)
 |_=>none
def Z39(E:Env)(cl:Cl α)(id:Nat)(args:List AV)(H:AHeap)(k:TRes→Option α):Option α:=match H.get id with
 |some (.loop .ready _ n t ps assign body _)=>ob (Ju n ps args t) fun t'=>Kc E cl assign (Z0k E cl id body k) ⟨n,t',[],true⟩ H
 |_=>none
theorem Z0u{E:Env}{cl:Cl α}{ih:Task→Option TRes}(hc:Zhm cl ih){id:Nat}{args:List AV}{H:AHeap}{k:TRes→Option α}{r:α}(h:Z39 E cl id args H k=some r):∃ x,Je E ih (.yield id args H)=some x∧k x=some r:=by
 unfold Z39 at h
 simp only[Je]
 split at h
 case h_2=>cases h
 rename_i pend n t ps assign body d hg
 obtain⟨t',ht,h1⟩:=Zq h
 obtain⟨e,fr1,H1,e1,h2⟩:=Qo hc _ _ _ _ _ h1
 simp only[hg,ht,e1]
 cases e <;> try (cases h2;done)
 simp only[Z0k] at h2
 dsimp only
 split at h2
 case h_2=>cases h2
 rename_i pend1 m1 u1 ps1 as1 bo1 d1 hg1
 obtain⟨e2,fr2,H2,e3,h3⟩:=Qo hc _ _ _ _ _ h2
 simp only[hg1,e3]
 unfold Zi9 at h3
 split at h3
 case h_2=>cases h3
 rename_i st2 pend2 m2 u2 ps2 as2 bo2 d2 hg2
 simp only[hg2]
 cases e2 with
 |normal=>exact⟨_,rfl,h3⟩
 |exit i=>exact⟨_,rfl,h3⟩
 |ret=>exact⟨_,rfl,h3⟩
 |panic v=>cases h3
abbrev Smk(α:Type):=FuncId→List AV→AHeap→(AV→AHeap→Option α)→Option α
def Qp(E:Env)(s:Smk α):Prop:=∀ f args H k r,s f args H k=some r→∃ v H',E.sm f args H=some (v,H')∧k v H'=some r
def smC(E:Env):Smk α:=fun f args H k=>ob (E.sm f args H) fun x=>k x.1 x.2
theorem W8(E:Env):Qp (α:=α) E (smC E):=fun f args H k r h=>by
 obtain⟨x,hx,h1⟩:=Zq h
 exact⟨x.1,x.2,hx,h1⟩
def Y05(E:Env)(cl:Cl α)(f:FuncId)(args:List AV)(pan:Option AV)(H:AHeap)(k:TRes→Option α):Option α:=ob (E.fn f) fun fn=>match Zfu fn.body with
 |some (o,rest)=>Kc E cl rest (Yum E fn.results pan.isSome k) ((Qa fn args).put o.dst (Z8i pan)) H
 |none=>Kc E cl fn.body (Yum E fn.results false k) (Qa fn args) H
def Y9h(E:Env)(s:Smk α)(cl:Cl α)(f:FuncId)(args:List AV)(H:AHeap)(k:TRes→Option α):Option α:=
 Option.rec (motive:=fun _=>Option α) (s f args H fun v H=>k (.call (.ret v H))) (fun fn=>Kc E cl fn.body (Y2o E cl fn.results k) (Qa fn args) H) (E.fn f)
def stepT(E:Env)(s:Smk α)(cl:Cl α):Cl α:=fun t k=>match t with
 |.code c fr H=>Kc E cl c (fun e fr H=>k (.code e fr H)) fr H
 |.call f args H=>Y9h E s cl f args H k
 |.dcall f args pan H=>Y05 E cl f args pan H k
 |.yield id args H=>Z39 E cl id args H k
theorem Z28{E:Env}{s:Smk α}(hs:Qp E s){cl:Cl α}{ih:Task→Option TRes}(hc:Zhm cl ih):Zhm (stepT E s cl) (Je E ih):=by
 intro t k r h
 cases t with
 |code c fr H=>
  obtain⟨e,fr',H',e1,e2⟩:=Qo hc _ _ _ _ _ h
  exact⟨_,e1,e2⟩
 |yield id args H=>exact Z0u hc h
 |call f args H=>
  have h':Option.rec (motive:=fun _=>Option α) (s f args H fun v H=>k (.call (.ret v H))) (fun fn=>Kc E cl fn.body (Y2o E cl fn.results k) (Qa fn args) H) (E.fn f)=some r:=h
  simp only[Je]
  cases hf:E.fn f with
  |none=>
   rw[hf] at h'
   obtain⟨v,H',hx,h1⟩:=hs _ _ _ _ _ h'
   exact⟨_,by simp only[hx],h1⟩
  |some fn=>
   rw[hf] at h'
   have h2:Kc E cl fn.body (Y2o E cl fn.results k) (Qa fn args) H=some r:=h'
   obtain⟨e,fr',H',e1,e2⟩:=Qo hc _ _ _ _ _ h2
   simp only[e1]
   cases e with
   |normal=>exact Zfg hc e2
   |ret=>exact Zfg hc e2
   |panic v=>exact Zfg hc e2
   |exit i=>cases e2
 |dcall f args pan H=>
  obtain⟨fn,hf,h1⟩:=Zq h
  simp only[Je,hf]
  split at h1
  ·rename_i o rest hr
   obtain⟨e,fr',H',e1,e2⟩:=Qo hc _ _ _ _ _ h1
   simp only[hr,e1]
   exact Zg7 e2
  ·rename_i hr
   obtain⟨e,fr',H',e1,e2⟩:=Qo hc _ _ _ _ _ h1
   simp only[hr,e1]
   exact Zg7 e2
def Z6g(E:Env)(s:Smk α)(n:Nat):Cl α:=Nat.rec (motive:=fun _=>Cl α) (fun _ _=>none) (fun _ cl=>stepT E s cl) n
theorem Zln(E:Env){s:Smk α}(hs:Qp E s):∀ n,Zhm (Z6g E s n) (run E n)
 |0=>fun t k r h=>by cases h
 |n+1=>Z28 hs (Zln E hs n)
def Yu(E:Env)(n:Nat):Cl α:=Z6g E (smC E) n
theorem Vd(E:Env)(n:Nat):Zhm (Yu (α:=α) E n) (run E n):=Zln E (W8 E) n
end
end
end Go.Vai
end
section
namespace Go.Vai
noncomputable section
variable {α:Type}
abbrev Ql:=List Bool
abbrev PC(α:Type):=AExit→AFr→AHeap→Ql→Option α
abbrev PCl(α:Type):=Task→Ql→(TRes→Ql→Option α)→Option α
def POk(cl:PCl α)(ih:Task→Option TRes):Prop:=∀ t o k r,cl t o k=some r→∃ x o',ih t=some x∧k x o'=some r
def brN(x:Bool)(t f:Ql→Option α)(o:Ql):Option α:=
 List.rec (motive:=fun _=>Option α) (bc x (t []) (f [])) (fun y o' _=>bc y (bc x (t o') none) (bc x none (f o'))) o
theorem Zzf{x:Bool}{t f:Ql→Option α}{o:Ql}{r:α}(h:brN x t f o=some r):∃ o',(x=true∧t o'=some r)∨(x=false∧f o'=some r):=by
 cases o with
 |nil=>exact⟨[],Y0 h⟩
 |cons y o'=>
  have h':bc y (bc x (t o') none) (bc x none (f o'))=some r:=h
  refine⟨o',?_⟩
  cases y with
  |true=>
   rw[Ym] at h'
   exact .inl (Zo h')
  |false=>
   rw[Yg] at h'
   rcases Y0 h' with⟨_,h1⟩|h1
   ·cases h1
   ·exact .inr h1
def Yf9(fr:AFr)(d:Nat)(want:Bool)(kt kf:AFr→Ql→Option α)(o:Ql):AV→Option α
 |.bool b=>bc (Nat.blt d 1000001) (brN b (fun o=>bc want (kt (Zr4 fr d true) o) (kf (Zr4 fr d true) o)) (fun o=>bc want (kf (Zr4 fr d false) o) (kt (Zr4 fr d false) o)) o) none
 |.tup _=>kf fr o
 |_=>none
def Z9o(all:Array Oper)(fr:AFr)(kt kf:AFr→Ql→Option α)(o:Ql):Option (Nat×Bool)→Option α
 |none=>kt fr o
 |some (j,want)=>match(all[j]?).bind (·.dst) with
  |none=>kf fr o
  |some d=>ob (fr.t.get d) fun v=>Yf9 fr d want kt kf o v
theorem Zoz{all:Array Oper}{fr:AFr}{kt kf:AFr→Ql→Option α}{op:Oper}{o:Ql}{r:α}(h:Z9o all fr kt kf o op.guard=some r):∃ o',(X3 all fr.t op=some true∧kt fr o'=some r)∨(X3 all fr.t op=some false∧kf fr o'=some r):=by
 unfold X3
 cases hg:op.guard with
 |none=>rw[hg] at h;exact⟨o,.inl ⟨rfl,h⟩⟩
 |some g=>
  obtain⟨j,want⟩:=g
  rw[hg] at h
  simp only[Z9o] at h ⊢
  cases hd:(all[j]?).bind (·.dst) with
  |none=>rw[hd] at h;exact⟨o,.inr ⟨rfl,h⟩⟩
  |some d=>
   rw[hd] at h
   simp only at h ⊢
   obtain⟨v,hv,h⟩:=Zq h
   rw[hv]
   cases v <;> try (cases h;done)
   case bool b=>
    simp only[Yf9] at h
    obtain⟨hlt,h⟩:=Zo h
    rw[Nat.blt_eq] at hlt
    have e:=Z9q hlt hv
    obtain⟨o',h5⟩:=Zzf h
    clear h
    refine⟨o',?_⟩
    rcases h5 with⟨hb,h5⟩|⟨hb,h5⟩
    ·subst hb
     rw[e] at h5
     cases want with
     |true=>exact .inl ⟨rfl,h5⟩
     |false=>exact .inr ⟨rfl,h5⟩
    ·subst hb
     rw[e] at h5
     cases want with
     |true=>exact .inr ⟨rfl,h5⟩
     |false=>exact .inl ⟨rfl,h5⟩
   case tup l=>exact⟨o,.inr ⟨rfl,h⟩⟩
def Yo7(k kp:AV→AHeap→Ql→Option α):TRes→Ql→Option α
 |.call (.ret v H),o=>k v H o
 |.call (.pan v H),o=>kp v H o
 |_,_=>none
def Ydt(k:AV→AHeap→Ql→Option α):TRes→Ql→Option α
 |.call (.ret v H),o=>k v H o
 |_,_=>none
def Y1i(cl:PCl α)(H:AHeap)(k kp:AV→AHeap→Ql→Option α)(kd:FuncId→List AV→Ql→Option α)(o:Ql):ARes→Option α
 |.val v H=>k v H o
 |.skip H=>k Wj H o
 |.panic v H=>kp v H o
 |.call f args=>cl (.call f args H) o (Yo7 k kp)
 |.ycall id args=>cl (.yield id args H) o (Ydt k)
 |.defer f args=>kd f args o
theorem Ztp{cl:PCl α}{ih:Task→Option TRes}(hc:POk cl ih){H:AHeap}{k kp:AV→AHeap→Ql→Option α}{kd:FuncId→List AV→Ql→Option α}{o:Ql}{x:ARes}{r:α}(h:Y1i cl H k kp kd o x=some r) :
  ∃ o',(∃ v H',(Xk ih H x=some (.val v H')∨(Xk ih H x=some (.skip H')∧v=Wj))∧k v H' o'=some r)∨(∃ v H',Xk ih H x=some (.panic v H')∧kp v H' o'=some r)∨(∃ f args,Xk ih H x=some (.defer f args)∧kd f args o'=some r):=by
 cases x with
 |val v H1=>exact⟨o,.inl ⟨v,H1,.inl rfl,h⟩⟩
 |skip H1=>exact⟨o,.inl ⟨Wj,H1,.inr ⟨rfl,rfl⟩,h⟩⟩
 |panic v H1=>exact⟨o,.inr (.inl ⟨v,H1,rfl,h⟩)⟩
 |defer f args=>exact⟨o,.inr (.inr ⟨f,args,rfl,h⟩)⟩
 |call f args=>
  obtain⟨y,o',hy,h1⟩:=hc _ _ _ _ h
  cases y with
  |call c=>
   cases c with
   |ret v H1=>exact⟨o',.inl ⟨v,H1,.inl (by simp[Xk,hy]),h1⟩⟩
   |pan v H1=>exact⟨o',.inr (.inl ⟨v,H1,by simp[Xk,hy],h1⟩)⟩
  |code=>cases h1
  |dcall=>cases h1
 |ycall id args=>
  obtain⟨y,o',hy,h1⟩:=hc _ _ _ _ h
  cases y with
  |call c=>
   cases c with
   |ret v H1=>exact⟨o',.inl ⟨v,H1,.inl (by simp[Xk,hy]),h1⟩⟩
   |pan v H1=>cases h1
  |code=>cases h1
  |dcall=>cases h1
def Ypk(k:AFr→AHeap→Ql→Option α)(op:Oper)(fr:AFr)(H:AHeap)(f:FuncId)(args:List AV)(o:Ql):Option α:=bc fr.rd none (k (Zc2 ⟨fr.n,fr.t,.call f args::fr.df,fr.rd⟩ op.dst Wj) H o)
abbrev Pin:=Oper→Option Int
def Qe:Pin:=fun _=>none
def Y0y(n:Int)(k:ARes→Option α):ARes→Option α
 |.val (.int kd x) H=>bc (Zd x n) (k (.val (.int kd n) H)) none
 |_=>none
def Y7u(pn:Pin)(op:Oper)(x:ARes)(k:ARes→Option α):Option α:=Option.rec (motive:=fun _=>Option α) (k x) (fun n=>Y0y n k x) (pn op)
def Y2w(pn:Pin)(op:Oper)(x:ARes)(k:ARes→Option α):Option α:=match op.op with
 |.binOp .rem _ _ _ _=>Y7u pn op x k
 |_=>k x
theorem Ydo{pn:Pin}{op:Oper}{x:ARes}{k:ARes→Option α}{r:α}(h:Y2w pn op x k=some r):k x=some r:=by
 unfold Y2w at h
 split at h
 case h_2=>exact h
 unfold Y7u at h
 cases hp:pn op with
 |none=>rw[hp] at h;exact h
 |some n=>
  rw[hp] at h
  have h2:Y0y n k x=some r:=h
  unfold Y0y at h2
  split at h2
  case h_2=>cases h2
  rename_i kd y H
  obtain⟨h3,h4⟩:=Zo h2
  have e:y=n:=by
   cases y <;> cases n <;> simp_all [Zd]
  rw[e];exact h4
def opP(E:Env)(pn:Pin)(cl:PCl α)(all:Array Oper)(op:Oper)(kp:AV→AFr→AHeap→Ql→Option α)(k:AFr→AHeap→Ql→Option α):AFr→AHeap→Ql→Option α:=fun fr H o=>
 Z9o all fr (fun fr o=>kOp op E H fr.t fun x=>Y2w pn op x fun x=>Y1i cl H (fun v H o=>k (Zc2 fr op.dst v) H o) (fun v H o=>kp v fr H o) (Ypk k op fr H) o x) (fun fr o=>k (Zc2 fr op.dst Wj) H o) o op.guard
def Y1g(E:Env)(pn:Pin)(cl:PCl α)(all:Array Oper)(k:PC α)(l:List Oper):AFr→AHeap→Ql→Option α:=
 List.rec (motive:=fun _=>AFr→AHeap→Ql→Option α) (k .normal) (fun op _ ih=>opP E pn cl all op (fun v fr H o=>k (.panic v) fr H o) ih) l
theorem Yc3{E:Env}{pn:Pin}{cl:PCl α}{ih:Task→Option TRes}(hc:POk cl ih){all:Array Oper}{k:PC α}:∀{l:List Oper}{fr:AFr}{H:AHeap}{o:Ql}{r:α},Y1g E pn cl all k l fr H o=some r →
  ∃ e fr' H' o',Za6 E ih all l fr H=some (.code e fr' H')∧k e fr' H' o'=some r:=by
 intro l
 induction l with
 |nil=>intro fr H o r h;exact⟨.normal,fr,H,o,rfl,h⟩
 |cons op l ihl=>
  intro fr H o r h
  have h':opP E pn cl all op (fun v fr H o=>k (.panic v) fr H o) (Y1g E pn cl all k l) fr H o=some r:=h
  simp only[Za6]
  obtain⟨o1,hw⟩:=Zoz h'
  rcases hw with⟨hw,h1⟩|⟨hw,h1⟩
  ·obtain⟨x,hx,h2⟩:=Zgj h1
   replace h2:=Ydo h2
   simp only[hw,hx]
   obtain⟨o2,h2⟩:=Ztp hc h2
   rcases h2 with⟨y,H1,hy,h3⟩|⟨y,H1,hy,h3⟩|⟨f,args,hy,h3⟩
   ·rw[V1] at h3
    obtain⟨e,fr',H',o',e1,e2⟩:=ihl h3
    refine⟨e,fr',H',o',?_,e2⟩
    rcases hy with hy|⟨hy,rfl⟩
    ·simp only[hy];exact e1
    ·simp only[hy];exact e1
   ·exact⟨_,_,_,o2,by simp only[hy],h3⟩
   ·unfold Ypk at h3
    rcases Y0 h3 with⟨_,h4⟩|⟨hrd,h4⟩
    ·cases h4
    ·rw[V1] at h4
     obtain⟨e,fr',H',o',e1,e2⟩:=ihl h4
     exact⟨e,fr',H',o',by simp only[hy,hrd,cond_false];rw[hrd] at e1;exact e1,e2⟩
  ·rw[V1] at h1
   obtain⟨e,fr',H',o',e1,e2⟩:=ihl h1
   exact⟨e,fr',H',o',by simp only[hw];exact e1,e2⟩
abbrev DP(α:Type):=Nat→List QRec→List ERec→AFr→AHeap→Ql→Option α
def Yz0(E:Env)(cl:PCl α)(an:Tr Nat)(all:Array Oper)(fr0:AFr)(op:Oper)(rest:List Oper)(i m:Nat)(qs:List QRec)(es:List ERec)(fr:AFr)(H:AHeap)(q:Bool)(kc:PC α)(k:DP α)(o:Ql)(x:ARes):Option α:=
 bc q (match x with
   |.val v H'=>Ym3 E op fr.t v m (k (i+1) (⟨i,op,fr.t,v⟩::qs) es (Zc2 fr op.dst v) H' o) es
   |_=>none)
  (Y1i cl H (fun v H' o=>Yih E H' m (k (i+1) qs (⟨i,H⟩::es) (Zc2 fr op.dst v) H' o) qs) (fun v H' o=>bc (Zf1 an i rest (i+1)) (kc (.panic v) ⟨fr0.n,Zc8 fr0.t all.toList,fr0.df,fr0.rd⟩ H' o) none) (fun _ _ _=>none) o x)
def Y8r(E:Env)(cl:PCl α)(an:Tr Nat)(all:Array Oper)(fr0:AFr)(kc:PC α)(op:Oper)(rest:List Oper)(k:DP α):DP α:=fun i qs es fr H o=>
 Z9o all fr (fun fr o=>ob (an.get i) fun m=>kOp op E H fr.t fun x=>Yz0 E cl an all fr0 op rest i m qs es fr H (Xg E op.op) kc k o x) (fun fr o=>k (i+1) qs es (Zc2 fr op.dst Wj) H o) o op.guard
def Yl9(E:Env)(cl:PCl α)(an:Tr Nat)(all:Array Oper)(fr0:AFr)(kc:PC α)(l:List Oper):DP α:=
 List.rec (motive:=fun _=>DP α) (fun _ _ _ fr H o=>kc .normal fr H o) (fun op rest k=>Y8r E cl an all fr0 kc op rest k) l
theorem Z40{E:Env}{cl:PCl α}{ih:Task→Option TRes}(hc:POk cl ih){an:Tr Nat}{all:Array Oper}{fr0:AFr}{kc:PC α}:∀{l:List Oper}{i:Nat}{qs:List QRec}{es:List ERec}{fr:AFr}{H:AHeap}{o:Ql}{r:α},
  Yl9 E cl an all fr0 kc l i qs es fr H o=some r→∃ e fr' H' o',Zgg E ih all an fr0 l i qs es fr H=some (.code e fr' H')∧kc e fr' H' o'=some r:=by
 intro l
 induction l with
 |nil=>intro i qs es fr H o r h;exact⟨.normal,fr,H,o,rfl,h⟩
 |cons op l ihl=>
  intro i qs es fr H o r h
  have h':Y8r E cl an all fr0 kc op l (Yl9 E cl an all fr0 kc l) i qs es fr H o=some r:=h
  simp only[Zgg]
  obtain⟨o1,hw⟩:=Zoz h'
  rcases hw with⟨hw,h1⟩|⟨hw,h1⟩
  ·obtain⟨m,hm,h2⟩:=Zq h1
   obtain⟨x,hx,h3⟩:=Zgj h2
   unfold Yz0 at h3
   cases hq:Xg E op.op with
   |true=>
    rw[hq,Ym] at h3
    cases x <;> try (cases h3;done)
    rename_i v H1
    obtain⟨ha,h4⟩:=Ztx i h3
    rw[V1] at h4
    have hH:=Zii hq hx
    obtain⟨e,fr',H',o',e1,e2⟩:=ihl (qs:=⟨i,op,fr.t,v⟩::qs) (es:=es) h4
    refine⟨e,fr',H',o',?_,e2⟩
    simp only[hw,hm,hx,cond_true,ha]
    rw[hH] at e1
    exact e1
   |false=>
    rw[hq,Yg] at h3
    obtain⟨o2,h3⟩:=Ztp hc h3
    rcases h3 with⟨y,H1,hy,h5⟩|⟨y,H1,hy,h5⟩|⟨f,args,hy,h5⟩
    ·obtain⟨ha,h6⟩:=Zsl h5
     rw[V1] at h6
     obtain⟨e,fr',H',o',e1,e2⟩:=ihl (qs:=qs) (es:=⟨i,H⟩::es) h6
     refine⟨e,fr',H',o',?_,e2⟩
     simp only[hw,hm,hx,cond_false]
     rcases hy with hy|⟨hy,rfl⟩
     ·simp only[hy,ha,cond_true];exact e1
     ·simp only[hy,ha,cond_true];exact e1
    ·obtain⟨h6,h7⟩:=Zo h5
     exact⟨_,_,_,o2,by simp only[hw,hm,hx,cond_false,hy,h6,cond_true],h7⟩
    ·cases h5
  ·rw[V1] at h1
   obtain⟨e,fr',H',o',e1,e2⟩:=ihl h1
   exact⟨e,fr',H',o',by simp only[hw];exact e1,e2⟩
def Y3k(E:Env)(pn:Pin)(cl:PCl α)(ops:Array Oper)(draw:Bool)(k:PC α):AFr→AHeap→Ql→Option α:=fun fr H o=>
 bc draw (ob (Zqh ops.toList 0 .nil) fun an=>bc (Zn4 E an ops.toList&&(Nat.ble fr.n 1000000&&Nat.ble ops.size 1000000)) (Yl9 E cl an ops fr k ops.toList 0 [] [] fr H o) none) (Y1g E pn cl ops k ops.toList fr H o)
theorem Yb8{E:Env}{pn:Pin}{cl:PCl α}{ih:Task→Option TRes}(hc:POk cl ih){ops:Array Oper}{draw:Bool}{k:PC α}{fr:AFr}{H:AHeap}{o:Ql}{r:α}(h:Y3k E pn cl ops draw k fr H o=some r) :
  ∃ e fr' H' o',Zde E ih ops draw fr H=some (.code e fr' H')∧k e fr' H' o'=some r:=by
 unfold Y3k at h
 unfold Zde
 cases draw with
 |false=>rw[Yg] at h;exact Yc3 hc h
 |true=>
  rw[Ym] at h
  obtain⟨an,han,h1⟩:=Zq h
  obtain⟨hb,h2⟩:=Zo h1
  obtain⟨e,fr',H',o',e1,e2⟩:=Z40 (qs:=[]) (es:=[]) (fr0:=fr) hc h2
  refine⟨e,fr',H',o',?_,e2⟩
  simp only[cond_true,han,hb]
  exact e1
abbrev CP(α:Type):=PC α→AFr→AHeap→Ql→Option α
def Yoh(k:PC α):TRes→Ql→Option α
 |.code e fr H,o=>k e fr H o
 |_,_=>none
def Y84(b:CP α)(k:PC α):PC α:=fun e fr H o=>AExit.rec (motive:=fun _=>Option α) (b k fr H o) (fun id=>k (.exit id) fr H o) (k .ret fr H o) (fun v=>k (.panic v) fr H o) e
def Y0j(a b:CP α)(k:PC α)(fr:AFr)(H:AHeap)(o:Ql):AV→Option α
 |.bool c=>brN c (fun o=>a k fr H o) (fun o=>b k fr H o) o
 |_=>none
def Yfb(id:Nat)(k:PC α):PC α:=fun e fr H o=>AExit.rec (motive:=fun _=>Option α) (k .normal fr H o) (fun i=>bc (Nat.beq i id) (k .normal fr H o) (k (.exit i) fr H o)) (k .ret fr H o) (fun v=>k (.panic v) fr H o) e
def Yzd(cl:PCl α)(c:Code)(k:PC α):PC α:=fun e fr H o=>AExit.rec (motive:=fun _=>Option α) (cl (.code (.loop c) fr H) o (Yoh k)) (fun id=>k (.exit id) fr H o) (k .ret fr H o) (fun v=>k (.panic v) fr H o) e
def Zui(k:PC α)(fr:AFr)(nx:Nat):TRes→Ql→Option α
 |.call (.ret _ H'),o=>(match H'.get (nx+1) with
  |some (.loop .busy _ _ _ _ _ _ _)=>none
  |some (.loop _ none n t p a b d)=>k .normal ⟨fr.n,fr.t,.mark nx::fr.df,fr.rd⟩ (H'.put (nx+1) (.loop .exhausted none n t p a b d)) o
  |some (.loop _ (some .ret) n t p a b d)=>k .ret ⟨fr.n,fr.t,.mark nx::fr.df,fr.rd⟩ (H'.put (nx+1) (.loop .exhausted (some .ret) n t p a b d)) o
  |some (.loop _ (some (.exit i)) n t p a b d)=>k (.exit i) ⟨fr.n,fr.t,.mark nx::fr.df,fr.rd⟩ (H'.put (nx+1) (.loop .exhausted (some (.exit i)) n t p a b d)) o
  |_=>none)
 |_,_=>none
def Ypj(E:Env)(cl:PCl α)(ps:Array Nat)(assign body:Code)(k:PC α)(fr:AFr)(H:AHeap)(o:Ql):AV→Option α
 |.fn g first cap=>ob (E.fn g) fun _=>cl (.call g (first++(.yld (H.next+1)::cap)) ((H.new .dfr).new (.loop .ready none fr.n fr.t ps.toList assign body H.next))) o (Zui k fr H.next)
 |_=>none
def Ze2(E:Env)(pn:Pin)(cl:PCl α)(c:Code):CP α:=
 Code.rec (motive:=fun _=>CP α) (fun k fr H o=>k .normal fr H o) (fun _ ops draw k=>Y3k E pn cl ops draw k) (fun _ _ a b k=>a (Y84 b k)) (fun c _ _ a b k fr H o=>ob (Wy E fr.t c) fun v=>Y0j a b k fr H o v) (fun id _ a k=>a (Yfb id k)) (fun c a k=>a (Yzd cl c k))
  (fun f ps assign body _ _ k fr H o=>bc fr.rd none (ob (Wy E fr.t f) fun v=>Ypj E cl ps assign body k fr H o v)) (fun id k fr H o=>k (.exit id) fr H o) (fun _ _ _ _ _ _=>none) (fun _ k fr H o=>k .normal fr H o) (fun _ _ _ _ _=>none) (fun k fr H o=>k .ret fr H o) (fun _ _ _ _ _=>none) c
theorem Zao{E:Env}{pn:Pin}{cl:PCl α}{ih:Task→Option TRes}(hc:POk cl ih):∀(c:Code)(k:PC α)(fr:AFr)(H:AHeap)(o:Ql)(r:α),Ze2 E pn cl c k fr H o=some r→∃ e fr' H' o',Y3 E ih c fr H=some (.code e fr' H')∧k e fr' H' o'=some r:=by
 intro c
 induction c with
 |skip=>intro k fr H o r h;exact⟨_,_,_,o,rfl,h⟩
 |region id ops draw=>intro k fr H o r h;exact Yb8 hc h
 |seq a b iha ihb=>
  intro k fr H o r h
  obtain⟨e,fr1,H1,o1,e1,e2⟩:=iha (Y84 (Ze2 E pn cl b) k) fr H o r h
  simp only[Y3,e1]
  cases e with
  |normal=>exact ihb k fr1 H1 o1 r e2
  |exit i=>exact⟨_,_,_,o1,rfl,e2⟩
  |ret=>exact⟨_,_,_,o1,rfl,e2⟩
  |panic v=>exact⟨_,_,_,o1,rfl,e2⟩
 |cond c a b iha ihb=>
  intro k fr H o r h
  have h':(ob (Wy E fr.t c) fun v=>Y0j (Ze2 E pn cl a) (Ze2 E pn cl b) k fr H o v)=some r:=h
  rw[Y1] at h'
  obtain⟨v,hv,h1⟩:=Zq h'
  simp only[Y3,hv]
  cases v <;> try (cases h1;done)
  rename_i t
  obtain⟨o1,h5⟩:=Zzf h1
  clear h1 h'
  rcases h5 with⟨ht,h5⟩|⟨ht,h5⟩
  ·subst ht
   exact iha k fr H o1 r h5
  ·subst ht
   exact ihb k fr H o1 r h5
 |block id a iha=>
  intro k fr H o r h
  obtain⟨e,fr1,H1,o1,e1,e2⟩:=iha (Yfb id k) fr H o r h
  simp only[Y3,e1]
  cases e with
  |normal=>exact⟨_,_,_,o1,rfl,e2⟩
  |ret=>exact⟨_,_,_,o1,rfl,e2⟩
  |panic v=>exact⟨_,_,_,o1,rfl,e2⟩
  |exit i=>
   have e2':bc (Nat.beq i id) (k .normal fr1 H1 o1) (k (.exit i) fr1 H1 o1)=some r:=e2
   simp only
   cases hb:Nat.beq i id with
   |true=>rw[hb] at e2';exact⟨_,_,_,o1,rfl,e2'⟩
   |false=>rw[hb] at e2';exact⟨_,_,_,o1,rfl,e2'⟩
 |loop a iha=>
  intro k fr H o r h
  obtain⟨e,fr1,H1,o1,e1,e2⟩:=iha (Yzd cl a k) fr H o r h
  simp only[Y3,e1]
  cases e with
  |normal=>
   obtain⟨x,o2,hx,e3⟩:=hc _ _ _ _ e2
   cases x with
   |code e' fr' H'=>exact⟨e',fr',H',o2,hx,e3⟩
   |call=>cases e3
   |dcall=>cases e3
  |exit i=>exact⟨_,_,_,o1,rfl,e2⟩
  |ret=>exact⟨_,_,_,o1,rfl,e2⟩
  |panic v=>exact⟨_,_,_,o1,rfl,e2⟩
 |rangeFunc f ps a b _ _=>
  intro k fr H o r h
  have h':bc fr.rd none (ob (Wy E fr.t f) fun v=>Ypj E cl ps a b k fr H o v)=some r:=h
  rcases Y0 h' with⟨_,h'⟩|⟨hrd,h1⟩
  ·cases h'
  rw[Y1] at h1
  obtain⟨v,hv,h1⟩:=Zq h1
  simp only[Y3,hrd,cond_false,hv]
  cases v <;> try (cases h1;done)
  rename_i g first cap
  obtain⟨fn,hfn,h2⟩:=Zq h1
  obtain⟨x,o2,hx,h3⟩:=hc _ _ _ _ h2
  simp only[hfn,hx]
  cases x with
  |code=>cases h3
  |dcall=>cases h3
  |call y=>
   cases y with
   |pan=>cases h3
   |ret v H'=>
    simp only[Zui] at h3
    dsimp only
    have hfr:∀ l:List ADf,AFr.mk fr.n fr.t l fr.rd={ fr with df:=l}:=fun _=>rfl
    cases hg:H'.get (H.next+1) with
    |none=>rw[hg] at h3;cases h3
    |some o=>
     rw[hg] at h3
     cases o with
     |loop st pend n t p asz bo d=>
      cases st <;> first
       |(cases h3;done)
       |(cases pend with
        |none=>exact⟨_,_,_,o2,rfl,by rw[hrd] at h3;exact h3⟩
        |some e=>
         cases e with
         |normal=>cases h3
         |exit i=>exact⟨_,_,_,o2,rfl,by rw[hrd] at h3;exact h3⟩
         |ret=>exact⟨_,_,_,o2,rfl,by rw[hrd] at h3;exact h3⟩
         |panic v=>cases h3)
     |_=>cases h3
 |exit id=>intro k fr H o r h;exact⟨_,_,_,o,rfl,h⟩
 |scope c _=>intro k fr H o r h;cases h
 |label l=>intro k fr H o r h;exact⟨_,_,_,o,rfl,h⟩
 |goto l=>intro k fr H o r h;cases h
 |ret=>intro k fr H o r h;exact⟨_,_,_,o,rfl,h⟩
 |refuse w=>intro k fr H o r h;cases h
def Ztb(k:Bool→AHeap→Ql→Option α):TRes→Ql→Option α
 |.dcall (.back taken H),o=>k taken H o
 |_,_=>none
def Zkv(E:Env)(cl:PCl α)(rs:List ResultVar)(t:Tr AV)(k:TRes→Ql→Option α)(ds:List ADf):Option AV→AHeap→Ql→Option α:=
 List.rec (motive:=fun _=>Option AV→AHeap→Ql→Option α)
  (fun p H o=>match p with
   |none=>Ycv E t H rs fun l=>k (.call (.ret (Zn9 l) H)) o
   |some v=>k (.call (.pan v H)) o)
  (fun d _ ih p H o=>match d with
   |.mark id=>(match H.get id with
    |some .dfr=>ih p (H.kill id) o
    |_=>none)
   |.call f args=>cl (.dcall f args p H) o (Ztb fun taken H o=>ih (bc taken none p) H o)) ds
theorem Zfa{E:Env}{cl:PCl α}{ih:Task→Option TRes}(hc:POk cl ih){rs:List ResultVar}{t:Tr AV}{k:TRes→Ql→Option α}:∀{ds:List ADf}{p:Option AV}{H:AHeap}{o:Ql}{r:α},Zkv E cl rs t k ds p H o=some r →
  ∃ x o',Qv E ih rs t ds p H=some x∧k x o'=some r:=by
 intro ds
 induction ds with
 |nil=>
  intro p H o r h
  cases p with
  |none=>
   obtain⟨vs,hvs,h1⟩:=Zk0 h
   exact⟨_,o,by simp only[Qv,hvs],h1⟩
  |some v=>exact⟨_,o,rfl,h⟩
 |cons d ds ihd=>
  intro p H o r h
  cases d with
  |mark id=>
   have h':(match H.get id with
    |some .dfr=>Zkv E cl rs t k ds p (H.kill id) o
    |_=>none)=some r:=h
   simp only[Qv]
   split at h'
   ·rename_i hg
    rw[hg]
    exact ihd h'
   ·cases h'
  |call f args=>
   have h':cl (.dcall f args p H) o (Ztb fun taken H o=>Zkv E cl rs t k ds (bc taken none p) H o)=some r:=h
   obtain⟨x,o1,hx,h1⟩:=hc _ _ _ _ h'
   cases x with
   |code=>cases h1
   |call=>cases h1
   |dcall y=>
    obtain⟨taken,H'⟩:=y
    obtain⟨z,o2,hz,h2⟩:=ihd h1
    rw[Ku] at hz
    exact⟨z,o2,by simp only[Qv,hx];exact hz,h2⟩
def Y20(E:Env)(cl:PCl α)(rs:List ResultVar)(k:TRes→Ql→Option α):PC α:=fun e fr H o=>AExit.rec (motive:=fun _=>Option α) (Zkv E cl rs fr.t k fr.df none H o) (fun _=>none) (Zkv E cl rs fr.t k fr.df none H o) (fun v=>Zkv E cl rs fr.t k fr.df (some v) H o) e
def endP(E:Env)(rs:List ResultVar)(taken:Bool)(k:TRes→Ql→Option α):PC α:=fun e fr H o=>Yum E rs taken (fun x=>k x o) e fr H
def Zul(id:Nat)(k:TRes→Ql→Option α):PC α:=fun e fr H o=>Zi9 id (fun x=>k x o) e fr H
def Zto(E:Env)(pn:Pin)(cl:PCl α)(id:Nat)(body:Code)(k:TRes→Ql→Option α):PC α:=fun e fr1 H1 o=>match e with
 |.normal=>(match H1.get id with
  |some (.loop .ready pend1 m1 u1 ps1 as1 bo1 d1)=>Ze2 E pn cl body (Zul id k) fr1 (H1.put id (.loop .busy pend1 m1 u1 ps1 as1 bo1 d1)) o
  |_=>none)
 |_=>none
def Z31(E:Env)(pn:Pin)(cl:PCl α)(id:Nat)(args:List AV)(H:AHeap)(o:Ql)(k:TRes→Ql→Option α):Option α:=match H.get id with
 |some (.loop .ready _ n t ps assign body _)=>ob (Ju n ps args t) fun t'=>Ze2 E pn cl assign (Zto E pn cl id body k) ⟨n,t',[],true⟩ H o
 |_=>none
theorem Zzn{E:Env}{pn:Pin}{cl:PCl α}{ih:Task→Option TRes}(hc:POk cl ih){id:Nat}{args:List AV}{H:AHeap}{o:Ql}{k:TRes→Ql→Option α}{r:α}(h:Z31 E pn cl id args H o k=some r):∃ x o',Je E ih (.yield id args H)=some x∧k x o'=some r:=by
 unfold Z31 at h
 simp only[Je]
 split at h
 case h_2=>cases h
 rename_i pend n t ps assign body d hg
 obtain⟨t',ht,h1⟩:=Zq h
 obtain⟨e,fr1,H1,o1,e1,h2⟩:=Zao hc _ _ _ _ _ _ h1
 simp only[hg,ht,e1]
 cases e <;> try (cases h2;done)
 simp only[Zto] at h2
 dsimp only
 split at h2
 case h_2=>cases h2
 rename_i pend1 m1 u1 ps1 as1 bo1 d1 hg1
 obtain⟨e2,fr2,H2,o2,e3,h3⟩:=Zao hc _ _ _ _ _ _ h2
 simp only[hg1,e3]
 unfold Zul Zi9 at h3
 split at h3
 case h_2=>cases h3
 rename_i st2 pend2 m2 u2 ps2 as2 bo2 d2 hg2
 simp only[hg2]
 cases e2 with
 |normal=>exact⟨_,o2,rfl,h3⟩
 |exit i=>exact⟨_,o2,rfl,h3⟩
 |ret=>exact⟨_,o2,rfl,h3⟩
 |panic v=>cases h3
def Y4l(E:Env)(pn:Pin)(cl:PCl α)(f:FuncId)(args:List AV)(pan:Option AV)(H:AHeap)(o:Ql)(k:TRes→Ql→Option α):Option α:=ob (E.fn f) fun fn=>match Zfu fn.body with
 |some (op,rest)=>Ze2 E pn cl rest (endP E fn.results pan.isSome k) ((Qa fn args).put op.dst (Z8i pan)) H o
 |none=>Ze2 E pn cl fn.body (endP E fn.results false k) (Qa fn args) H o
def Y4h(E:Env)(s:Smk α)(pn:Pin)(cl:PCl α)(f:FuncId)(args:List AV)(H:AHeap)(o:Ql)(k:TRes→Ql→Option α):Option α:=
 Option.rec (motive:=fun _=>Option α) (s f args H fun v H=>k (.call (.ret v H)) o) (fun fn=>Ze2 E pn cl fn.body (Y20 E cl fn.results k) (Qa fn args) H o) (E.fn f)
def Yzv(E:Env)(s:Smk α)(pn:Pin)(cl:PCl α):PCl α:=fun t o k=>match t with
 |.code c fr H=>Ze2 E pn cl c (fun e fr H o=>k (.code e fr H) o) fr H o
 |.call f args H=>Y4h E s pn cl f args H o k
 |.dcall f args pan H=>Y4l E pn cl f args pan H o k
 |.yield id args H=>Z31 E pn cl id args H o k
theorem Z2s{E:Env}{s:Smk α}(hs:Qp E s){pn:Pin}{cl:PCl α}{ih:Task→Option TRes}(hc:POk cl ih):POk (Yzv E s pn cl) (Je E ih):=by
 intro t o k r h
 cases t with
 |code c fr H=>
  obtain⟨e,fr',H',o',e1,e2⟩:=Zao hc _ _ _ _ _ _ h
  exact⟨_,o',e1,e2⟩
 |yield id args H=>exact Zzn hc h
 |call f args H=>
  have h':Option.rec (motive:=fun _=>Option α) (s f args H fun v H=>k (.call (.ret v H)) o) (fun fn=>Ze2 E pn cl fn.body (Y20 E cl fn.results k) (Qa fn args) H o) (E.fn f)=some r:=h
  simp only[Je]
  cases hf:E.fn f with
  |none=>
   rw[hf] at h'
   obtain⟨v,H',hx,h1⟩:=hs f args H _ _ h'
   exact⟨_,o,by simp only[hx],h1⟩
  |some fn=>
   rw[hf] at h'
   have h2:Ze2 E pn cl fn.body (Y20 E cl fn.results k) (Qa fn args) H o=some r:=h'
   obtain⟨e,fr',H',o1,e1,e2⟩:=Zao hc _ _ _ _ _ _ h2
   simp only[e1]
   cases e with
   |normal=>exact Zfa hc e2
   |ret=>exact Zfa hc e2
   |panic v=>exact Zfa hc e2
   |exit i=>cases e2
 |dcall f args pan H=>
  obtain⟨fn,hf,h1⟩:=Zq h
  simp only[Je,hf]
  split at h1
  ·rename_i op rest hr
   obtain⟨e,fr',H',o1,e1,e2⟩:=Zao hc _ _ _ _ _ _ h1
   simp only[hr,e1]
   obtain⟨x,hx,h2⟩:=Zg7 (k:=fun x=>k x o1) e2
   exact⟨x,o1,hx,h2⟩
  ·rename_i hr
   obtain⟨e,fr',H',o1,e1,e2⟩:=Zao hc _ _ _ _ _ _ h1
   simp only[hr,e1]
   obtain⟨x,hx,h2⟩:=Zg7 (k:=fun x=>k x o1) e2
   exact⟨x,o1,hx,h2⟩
def W2(E:Env)(s:Smk α)(pn:Pin)(n:Nat):PCl α:=Nat.rec (motive:=fun _=>PCl α) (fun _ _ _=>none) (fun _ cl=>Yzv E s pn cl) n
theorem Zb4(E:Env){s:Smk α}(hs:Qp E s)(pn:Pin):∀ n,POk (W2 E s pn n) (run E n)
 |0=>fun t o k r h=>by cases h
 |n+1=>Z2s hs (Zb4 E hs pn n)
def Ye8(E:Env)(pn:Pin)(n:Nat):PCl α:=W2 E (smC E) pn n
theorem Ych(E:Env)(pn:Pin)(n:Nat):POk (Ye8 (α:=α) E pn n) (run E n):=Zb4 E (W8 E) pn n
def Yr(E:Env)(n:Nat):PCl α:=Ye8 E Qe n
theorem Yjo(E:Env)(n:Nat):POk (Yr (α:=α) E n) (run E n):=Ych E Qe n
end
end Go.Vai
end
section
namespace Go.Vai
def Kept(gl:List (Nat×List AV))(w0:World)(M:List MEnt)(H:AHeap)(w:World):Prop:=Z4 gl w∧Keeps w0 w∧∀ b,b<w0.heap.size→¬ Wr M H b
theorem Keeps.refl(w:World):Keeps w w:=⟨Nat.le_refl _,rfl,rfl,rfl,fun _ _=>rfl⟩
theorem Keeps.trans{a b c:World}(h:Keeps a b)(k:Keeps b c):Keeps a c:=⟨Nat.le_trans h.size k.size,k.os.trans h.os,k.tape.trans h.tape,k.output.trans h.output,fun i hi=>(k.old i (Nat.lt_of_lt_of_le hi h.size)).trans (h.old i hi)⟩
theorem Z4.keeps{gl:List (Nat×List AV)}{w w':World}(h:Z4 gl w)(k:Keeps w w'):Z4 gl w':=fun g av hm=>by
 obtain⟨cs,e,lo,hi,h1,h2⟩:=h g av hm
 exact⟨cs,e,lo,hi,by rw[k.old g (Array.getElem?_eq_some_iff.1 h1).1];exact h1,h2⟩
theorem Zz{gl:List (Nat×List AV)}{w0:World}(hw:Z4 gl w0):Carried (Kept gl w0) where
 ext:=fun M H w M' H' w' ⟨_,h2,h3⟩ x=>by
  have k:Keeps w0 w':=⟨Nat.le_trans h2.size x.size,x.os.trans h2.os,x.tape.trans h2.tape,x.output.trans h2.output,fun b hb=>((x.old b (Nat.lt_of_lt_of_le hb h2.size) (h3 b hb)).1).trans (h2.old b hb)⟩
  exact⟨hw.keeps k,k,fun b hb=>(x.old b (Nat.lt_of_lt_of_le hb h2.size) (h3 b hb)).2⟩
 ren:=fun _ _ _ _ _ ⟨h1,h2,h3⟩ _ _ hs=>⟨h1,h2,fun b hb hw=>h3 b hb (hs b hw)⟩
noncomputable def news (H : AHeap) : List AObj → AHeap
  | [] => H
  | o :: os => news (H.new o) os
theorem Zhb:∀(os:List AObj)(H:AHeap),(news H os).next=H.next+os.length
 |[],_=>rfl
 |o::os,H=>by
  show(news (H.new o) os).next=_
  rw[Zhb os]
  simp[AHeap.new];omega
theorem Zct:∀{os:List AObj}{H:AHeap}{id:Nat}{o:AObj},(news H os).get id=some o→(∃ j:Nat,id=H.next+j∧os[j]?=some o)∨(H.get id=some o∧∀ j,id=H.next+j→os.length≤j)
 |[],_,_,_,h=>.inr ⟨h,fun _ _=>Nat.zero_le _⟩
 |p::os,H,id,o,h=>by
  rcases Zct (os:=os) (H:=H.new p) h with⟨j,e,hj⟩|⟨hg,hn⟩
  ·refine .inl ⟨j+1,?_,by simpa using hj⟩
   simp only[AHeap.new] at e;omega
  ·rcases AHeap.get_new hg with⟨rfl,rfl⟩|⟨hne,hg⟩
   ·exact .inl ⟨0,rfl,rfl⟩
   ·refine .inr ⟨hg,fun j e=>?_⟩
    cases j with
    |zero=>exact absurd e hne
    |succ j=>
     have:=hn j (by simp only[AHeap.new];omega)
     simp;omega
theorem Zou{gl:List (Nat×List AV)}{M:List MEnt}{H:AHeap}{w:World}(hr:HRel M H w){M':List MEnt}{H':AHeap}{w':World}(hr':HRel M' H' w')(kp:Kept gl w M' H' w'){keep:List Nat}{os:List AObj}(hk:keep.Nodup)(hlen:os.length=keep.length)
  (ho:∀(j:Nat)(u:AObj),os[j]?=some u→∃ i o,keep[j]?=some i∧H'.get i=some o∧Zcr H.next keep o u∧o.isRo=false) {v u:AV} {cv:Value} (hv:Zm M' v cv) (hu:rnV H.next keep v=some u) :
  Vv M H w (.ret u (news H os)) (.returned cv) w':=by
 obtain⟨_,kp,nw⟩:=kp
 have hlt:∀ i∈keep,i<M'.length:=fun i hi=>by
  obtain⟨j,hj⟩:=List.getElem?_of_mem hi
  have hjl:j<os.length:=by rw[hlen];exact(List.getElem?_eq_some_iff.1 hj).1
  obtain⟨i2,o,e1,e2,_⟩:=ho j os[j] (List.getElem?_eq_getElem hjl)
  rw[hj] at e1;cases e1
  exact hr'.lt e2
 have hren:=Zz6 hlt
 have hM:Zy7 H.next keep M' (M++Zk8 keep M'):=fun k i hki=>by
  have:=hren k i hki
  rw[Nat.zero_add] at this
  rw[List.getElem?_append_right (by rw[hr.len];omega),hr.len,show H.next+k - H.next=k by omega]
  exact this
 have pre:M <+: M++Zk8 keep M':=List.prefix_append _ _
 have newAt:∀ j i,keep[j]?=some i→(M++Zk8 keep M')[H.next+j]?=M'[i]?:=hM
 have inj:∀ k l i:Nat,keep[k]?=some i→keep[l]?=some i→k=l:=fun k l i hk' hl'=>
  (List.getElem?_inj (List.getElem?_eq_some_iff.1 hk').1 hk).1 (hk'.trans hl'.symm)
 have oldAt:∀ id o,H.get id=some o→∀ m,(M++Zk8 keep M')[id]?=some m→M[id]?=some m∧m.block<w.heap.size:=fun id o e m hm=>by
  obtain⟨m',hm',r⟩:=hr.obj id o e
  have:=X9 pre hm'
  rw[hm] at this;cases this
  exact⟨hm',r.lt⟩
 have fresh:∀ j o,os[j]?=some o→∃ i p m,keep[j]?=some i∧H'.get i=some p∧Zcr H.next keep p o∧(M++Zk8 keep M')[H.next+j]?=some m∧M'[i]?=some m∧Jc M' m w' p∧w.heap.size≤m.block∧o.isRo=false:=fun j o hj=>by
  obtain⟨i,p,e1,e2,e3,e4⟩:=ho j o hj
  obtain⟨m,hm,r⟩:=hr'.obj i p e2
  refine⟨i,p,m,e1,e2,e3,by rw[newAt j i e1];exact hm,hm,r,?_,by rw[e3.ro];exact e4⟩
  by_cases hb:m.block<w.heap.size
  ·exact absurd ⟨i,p,m,e2,e4,hm,rfl⟩ (nw _ hb)
  ·omega
 have hr2:HRel (M++Zk8 keep M') (news H os) w':=by
  refine⟨by rw[Zhb,List.length_append,hr.len,hlen];simp[Zk8],fun id o h=>?_,fun i j o p m k hi hj hm hk' hij hb=>?_⟩
  ·rcases Zct h with⟨j,rfl,hj⟩|⟨hg,_⟩
   ·obtain⟨i,p,m,e1,e2,e3,e4,e5,e6,_⟩:=fresh j o hj
    exact⟨m,e4,e3.rel hM e6⟩
   ·obtain⟨m,hm,r⟩:=hr.obj id o hg
    exact⟨m,X9 pre hm,r.carry pre (kp.old _ r.lt)⟩
  ·rcases Zct hi with⟨a,rfl,ha⟩|⟨hi',_⟩ <;> rcases Zct hj with⟨b,rfl,hb'⟩|⟨hj',_⟩
   ·obtain⟨i1,p1,m1,a1,a2,a3,a4,a5,_⟩:=fresh a o ha
    obtain⟨i2,p2,m2,b1,b2,b3,b4,b5,_⟩:=fresh b p hb'
    rw[hm] at a4;cases a4
    rw[hk'] at b4;cases b4
    have hne:i1≠i2:=fun e=>by subst e;exact hij (by rw[inj a b i1 a1 b1])
    obtain⟨z1,z2⟩:=hr'.inj i1 i2 p1 p2 m k a2 b2 a5 b5 hne hb
    exact⟨by rw[a3.ro];exact z1,by rw[b3.ro];exact z2⟩
   ·obtain⟨i1,p1,m1,a1,a2,a3,a4,a5,a6,a7,_⟩:=fresh a o ha
    rw[hm] at a4;cases a4
    have:=(oldAt j p hj' k hk').2
    omega
   ·obtain⟨i2,p2,m2,b1,b2,b3,b4,b5,b6,b7,_⟩:=fresh b p hb'
    rw[hk'] at b4;cases b4
    have:=(oldAt i o hi' m hm).2
    omega
   ·exact hr.inj i j o p m k hi' hj' (oldAt i o hi' m hm).1 (oldAt j p hj' k hk').1 hij hb
 refine⟨u,news H os,_,rfl,⟨pre,kp.size,kp.os,kp.tape,kp.output,fun b hb hn=>⟨kp.old b hb,fun hw=>?_⟩,fun b hb hn hw=>?_⟩,hr2,Kp hM v u cv hu hv⟩
 ·obtain⟨id,o,m,e,hro,em,rfl⟩:=hw
  rcases Zct e with⟨j,rfl,hj⟩|⟨hg,_⟩
  ·obtain⟨i,p,m2,e1,e2,e3,e4,e5,e6,e7,_⟩:=fresh j o hj
   rw[em] at e4;cases e4;omega
  ·exact hn ⟨id,o,m,hg,hro,(oldAt id o hg m em).1,rfl⟩
 ·obtain⟨id,o,m,e,em,rfl⟩:=hw
  rcases Zct e with⟨j,rfl,hj⟩|⟨hg,_⟩
  ·obtain⟨i,p,m2,e1,e2,e3,e4,e5,e6,e7,_⟩:=fresh j o hj
   rw[em] at e4;cases e4;omega
  ·exact hn ⟨id,o,m,hg,(oldAt id o hg m em).1,rfl⟩
def Zgh(P:Program)(gl:List (Nat×List AV))(f:FuncId)(cargs:List Value)(R:AV→AHeap→Prop):Prop:=
 ∀ w,Z4 gl w→(callFunc f cargs.toArray).run P w=.ok (.enter f cargs.toArray) w ∧
  CallsIn Fence.wide 0 P f cargs.toArray w fun e w'=>∃ cv v H' M',e=.returned cv∧HRel M' H' w'∧Kept gl w M' H' w'∧Zm M' v cv∧R v H'
section
variable {E:Env} {P:Program}
theorem Zgh.calls{gl:List (Nat×List AV)}{f:FuncId}{cargs:List Value}{R:AV→AHeap→Prop}(h:Zgh P gl f cargs R){M:List MEnt}{H:AHeap}{w:World}(hw:Z4 gl w)(hr:HRel M H w){u:AV}{os:List AObj}
  (hR:∀ v H',R v H'→∃ keep:List Nat,keep.Nodup∧os.length=keep.length∧rnV H.next keep v=some u∧∀(j:Nat)(x:AObj),os[j]?=some x→∃ i o,keep[j]?=some i∧H'.get i=some o∧Zcr H.next keep o x∧o.isRo=false) :
  Jp P f cargs M H w (.ret u (news H os)):=by
 obtain⟨h1,h2⟩:=h w hw
 refine .inr ⟨h1,CallsIn.mono h2 ?_⟩
 rintro e w' ⟨cv,v,H',M',rfl,hr',kp,hv,r⟩
 obtain⟨keep,k1,k2,k3,k4⟩:=hR v H' r
 exact Zou hr hr' kp k1 k2 k4 hv k3
end
end Go.Vai
end
section
namespace Go.Vai
section
variable {P:Program} {M:List MEnt} {w:World}
theorem Xt.at_:∀{es:List (AV×AV×Nat)}{ces:List MapEntry},Xt M es ces→∀{i:Nat}{e:MapEntry},ces[i]?=some e→∃ x,es[i]?=some x∧Zm M x.1 e.key∧Zm M x.2.1 e.val∧e.born=x.2.2
 |[],[],_,i,e,h=>by simp at h
 |(k,v,b)::es,c::ces,⟨r1,r2,r3,r4⟩,0,e,h=>by
  simp only[List.getElem?_cons_zero,Option.some.injEq] at h
  subst h
  exact⟨_,rfl,r1,r2,r3⟩
 |(k,v,b)::es,c::ces,⟨_,_,_,r4⟩,i+1,e,h=>by
  simpa using Xt.at_ r4 (i:=i) (e:=e) (by simpa using h)
end
noncomputable section
variable {α:Type}
abbrev NCl(α:Type):=Task→Ql→(TRes→Ql→Option α)→Option α
def Qu(q:α→α→Bool)(k:AV×AHeap→Option α)(l:List (AV×AHeap)):Option α:=
 List.rec (motive:=fun _=>Option α) none (fun x l ih=>match l with
  |[]=>k x
  |_::_=>ob (k x) fun a=>ob ih fun b=>bc (q a b) (some a) none) l
end
def Z2q(P:Program)(f:FuncId)(cargs:List Value)(M:List MEnt)(H:AHeap)(w:World)(Q:CRes→Prop):Prop:=
 (∃ cv w' cr,(callFunc f cargs.toArray).run P w=.ok (.value cv) w'∧Q cr∧Vv M H w cr (.returned cv) w')∨Enters P f cargs w fun en w'=>∃ cr,Q cr∧Vv M H w cr en w'
def Zow(ro:Option Nat)(M:List MEnt)(H:AHeap)(w:World)(Q:AExit→AFr→AHeap→Prop)(x:Exit)(a:Act)(w':World):Prop:=∃ e fr' H',Q e fr' H'∧Zdt ro M H w e fr' H' x a w'
structure NSound{α:Type}(E:Env)(P:Program)(I:List MEnt→AHeap→World→Prop)(cl:NCl α):Prop where
 loop:∀ ro c fr H o k r M w a,cl (.code (.loop c) fr H) o k=some r→St E I M H w→FRel ro M fr a→Zlf (FF ro) P c (Zow ro M H w fun e fr' H'=>∃ o',k (.code e fr' H') o'=some r) a w
 call:∀ f args H o k r M w cargs,cl (.call f args H) o k=some r→St E I M H w→Zp M args cargs→Z2q P f cargs M H w fun cr=>∃ o',k (.call cr) o'=some r
section
variable {α:Type} {E:Env} {P:Program} {I:List MEnt→AHeap→World→Prop} {ih:Task→Option TRes} {ro:Option Nat} {M:List MEnt} {H:AHeap} {w:World} {clD:Cl α} {cl:NCl α} {q:α→α→Bool}
theorem Z2q.of{f:FuncId}{cargs:List Value}{r:CRes}(h:Jp P f cargs M H w r){Q:CRes→Prop}(hq:Q r):Z2q P f cargs M H w Q:=by
 rcases h with⟨cv,w',h1,h2⟩|⟨h1,h2⟩
 ·exact .inl ⟨cv,w',r,h1,hq,h2⟩
 ·exact .inr ⟨h1,CallsIn.mono h2 fun e w' hp=>⟨r,hq,hp⟩⟩
theorem Zow.mono{Q Q':AExit→AFr→AHeap→Prop}(hq:∀ e fr H,Q e fr H→Q' e fr H){x:Exit}{a:Act}{w':World}(h:Zow ro M H w Q x a w'):Zow ro M H w Q' x a w':=by
 obtain⟨e,fr,H',q,p⟩:=h
 exact⟨e,fr,H',hq _ _ _ q,p⟩
theorem Zow.after{M1:List MEnt}{H1:AHeap}{w1:World}(x:Ext M H w M1 H1 w1){Q:AExit→AFr→AHeap→Prop}{ex:Exit}{a:Act}{w':World}(h:Zow ro M1 H1 w1 Q ex a w'):Zow ro M H w Q ex a w':=by
 obtain⟨e,fr,H',q,p⟩:=h
 exact⟨e,fr,H',q,p.after x⟩
structure WayOk(ro:Option Nat)(M:List MEnt)(H:AHeap)(w:World)(dst:Option Tmp)(a:Act)(next:Act→World→Prop)(Q:Exit→Act→World→Prop)(k kp:AV→AHeap→Prop)(kd:FuncId→List AV→Prop):Prop where
 val:∀ v H',k v H'→∀ cv w' M',Ext M H w M' H' w'→HRel M' H' w'→Zm M' v cv→next (a.put dst cv) w'
 pan:∀ v H',kp v H'→∀ cv w' M',Ext M H w M' H' w'→HRel M' H' w'→Zm M' v cv→Q (.panic [{ v:=cv,recovered:=false}]) a w'
 dfr:∀ f args,kd f args→ro=none∧∀ d,Zoa M (.call f args) d→next ({ a with defers:=d::a.defers}.put dst undef) w
end
end Go.Vai
end
