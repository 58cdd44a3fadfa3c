/- 'foundrylaw16.RelocField', from any input: it answers true. -/
import Derived.Test.YtaakhjmfojoodaaGreatDoorRfJnC
import Derived.Test.YtaakhjmfojoodaaGreatDoorTie
import Derived.Test.YtaakhjmfojoodaaGreatDoorCards
import Derived.ProofKit
import Derived.Lay
import Derived.LaidOnce
import Derived.SevenTiedAt
namespace Go.Proofs.YtaakhjmfojoodaaGreatDoor
open Go Go.Vai Go.RowKit Go.ChangeShapes Go.WideShapes Go.ChangeAt
set_option maxRecDepth 100000
noncomputable section
theorem Yh7{b:Nat}{keep:List Nat}{x:AV}{c:Bool}(h:rnV b keep x=some (.bool c)):x=.bool c:=by
 cases x <;> simp only[rnV] at h <;> (try split at h) <;> simp_all
theorem Z1k{E:Env}{s:Smk AV}(hs:Qp E s){pn:Pin}{n f:Nat}{args:List AV}{H:AHeap}{o:Ql}(h:W2 E s pn n (.call f args H) o jK=some (.bool true)):∃ H1,run E n (.call f args H)=some (.call (.ret (.bool true) H1)):=by
 obtain⟨x,o',e,hk⟩:=Zb4 E hs pn n _ _ _ _ h
 cases x with
 |code a b c=>cases hk
 |dcall a=>cases hk
 |call c=>
  cases c with
  |pan v H=>cases hk
  |ret v H1=>
   have hk:rnV 0 [] v=some (.bool true):=hk
   rw[Yh7 hk] at e
   exact⟨H1,e⟩
theorem Zu4{E:Env}{sk:Smk AV}{o:Ql}(hE:∀ w,Z4 gl w→EnvOk E Tryz.prog (Kept gl w))(hf:(E.fn 3).isSome=true)(hng:E.ng=12)(hsk:Qp E sk){w:World}(hw:Z4 gl w){t ty a s p:Int}{b:AV}{cv:Value}{os:List AObj}{ex:List MEnt}
  (hl:ex.length=os.length) (hro:∀ o∈os,o.isRo=true) (ho:∀(j:Nat) m o,ex[j]?=some m→os[j]?=some o→Jc [] m w o) (hh:Zm (V9 12 0++ex) b cv)
  (h:W2 E sk Qe 100000 (.call 3 [.int .i64 t,.int .i64 ty,b,.int .i64 a,.int .u64 s,.int .u64 p] (Xm 12 os)) o jK=some (.bool true)):Calls Tryz.prog 3 #[.int .i64 t,.int .i64 ty,cv,.int .i64 a,.int .u64 s,.int .u64 p] w fun e w'=>e=.returned (.bool true)∧Keeps w w':=by
 obtain⟨H1,e1⟩:=Z1k hsk h
 rw[←hng] at hh e1
 exact Ynr (E:=E) (n:=100000) (args:=[.int .i64 t,.int .i64 ty,b,.int .i64 a,.int .u64 s,.int .u64 p]) (cargs:=[.int .i64 t,.int .i64 ty,cv,.int .i64 a,.int .u64 s,.int .u64 p]) hE hf hw hl hro ho ⟨rfl,rfl,hh,rfl,rfl,rfl,trivial⟩ (v1:=.bool true) rfl e1
theorem own:ownKnob Tryz.prog.godebug=none:=by kernel_rfl
theorem laidOut:laidOutB Tryz.prog=true:=by kernel_rfl
theorem Z54:((begin Tryz.prog (fun _ _=>0) default).world.heap[0]?).bind Obj.row?=some (#[.int .i64 0],3):=by kernel_rfl
theorem Jt:(Rows.relocFieldRow.laid.all fun x=>x.2.handleName?.isNone)=true:=by kernel_rfl
theorem Ya7:Zeu Tryz.prog 3 241 Rows.laid_strings_asciiSpace=some Y4i:=by kernel_rfl
theorem Yqr : Tryz.prog.globalNamed "strings.asciiSpace" = some 1 := by kernel_rfl
theorem Yok:(Tryz.prog.globals[1]?).map (·.type)=some 241:=by kernel_rfl
theorem Ye5 : Tryz.prog.globalNamed "strconv.ErrSyntax" = some 4 := by kernel_rfl
theorem Yp6:(Tryz.prog.globals[4]?).map (·.type)=some 207:=by kernel_rfl
theorem Yif : Tryz.prog.globalNamed "strconv.ErrRange" = some 5 := by kernel_rfl
theorem Ykg:(Tryz.prog.globals[5]?).map (·.type)=some 207:=by kernel_rfl
theorem Zsi : Tryz.prog.underlying 207 = some (.interface #[("Error", 232)]) := by kernel_rfl
theorem Yw9 : ("strings.asciiSpace", (Rows.laid_strings_asciiSpace : DataW Unit)) ∈ Rows.relocFieldRow.laid := (.tail _ (.tail _ (.tail _ (.tail _ (.tail _ (.tail _ (.tail _ (.head _))))))))
theorem Ytq : ("strconv.ErrSyntax", (Rows.laid_strconv_ErrSyntax : DataW Unit)) ∈ Rows.relocFieldRow.laid := (.tail _ (.tail _ (.tail _ (.tail _ (.tail _ (.head _))))))
theorem Yvg : ("strconv.ErrRange", (Rows.laid_strconv_ErrRange : DataW Unit)) ∈ Rows.relocFieldRow.laid := (.tail _ (.tail _ (.tail _ (.tail _ (.head _)))))
theorem Yx7{W:World}(h:W.ShapedOpen Tryz.prog)(hl:laidMetH Tryz.prog Rows.relocFieldRow.laid W):Z4 gl W:=by
 intro g av hm
 rcases List.mem_cons.1 hm with hm|hm
 ·have e2:g=0:=congrArg Prod.fst hm
  have e3:av=[.opq (some .i64)]:=congrArg Prod.snd hm
  rw[e2,e3]
  exact Ybr h (by decide) Z54 rfl (Z7g.s1_3 W h)
 rcases List.mem_cons.1 hm with hm|hm
 ·have e2:g=1:=congrArg Prod.fst hm
  have e3:av=Y4i:=congrArg Prod.snd hm
  rw[e2,e3]
  obtain⟨cs,e,lo,hi,a1,a2⟩:=Z21 hl Jt Yw9 Yqr Yok Ya7
  exact⟨cs,e,lo,hi,a1,a2⟩
 rcases List.mem_cons.1 hm with hm|hm
 ·have e2:g=4:=congrArg Prod.fst hm
  have e3:av=[.opq none]:=congrArg Prod.snd hm
  rw[e2,e3]
  obtain⟨cs,e,lo,hi,a1,a2⟩:=Zy3 hl Jt Ytq Ye5 Yp6 Zsi
  exact⟨cs,e,lo,hi,a1,a2⟩
 have e1:(g,av)=(5,[.opq none]):=List.mem_singleton.1 hm
 have e2:g=5:=congrArg Prod.fst e1
 have e3:av=[.opq none]:=congrArg Prod.snd e1
 rw[e2,e3]
 obtain⟨cs,e,lo,hi,a1,a2⟩:=Zy3 hl Jt Yvg Yif Ykg Zsi
 exact⟨cs,e,lo,hi,a1,a2⟩
theorem Y31:Zji Tryz.prog 3 5=some [.int .u8]:=by kernel_rfl
theorem Yxe:Tryz.prog.cellsOf 5=1:=by kernel_rfl
theorem Zjd:(Tryz.f3.params.toList.all fun t=>Tryz.prog.readableRec t&&decide (t<Tryz.prog.types.size))=true:=by kernel_rfl
theorem Z0w{H:Type}{enc:TypeId×Value→H}{P:Program}{w:World}{base:Nat}{spare:Nat→Bool}{held:Bool}{a b c d e f:TypeId}{args:Array Value}{ds:List (DataW H)}{ps:List MemPlace}(h:DataW.TrodAll enc P w base spare held [a,b,c,d,e,f] args.toList ds ps):∃ v0 v1 v2 v3 v4 v5 d0 d1 d2 d3 d4 d5 p0 p1 p2 p3 p4 p5,args=#[v0,v1,v2,v3,v4,v5]∧ds=[d0,d1,d2,d3,d4,d5]∧ps=p0++p1++p2++p3++p4++p5∧DataW.Trod enc P w base spare held a v0 d0 p0∧DataW.Trod enc P w base spare held b v1 d1 p1∧DataW.Trod enc P w base spare held c v2 d2 p2∧DataW.Trod enc P w base spare held d v3 d3 p3∧DataW.Trod enc P w base spare held e v4 d4 p4∧DataW.Trod enc P w base spare held f v5 d5 p5:=by
 obtain⟨v0,l0,d0,k0,p0,q0,hargs,rfl,rfl,h0,r0⟩:=trodAll_cons h
 obtain⟨v1,l1,d1,k1,p1,q1,rfl,rfl,rfl,h1,r1⟩:=trodAll_cons r0
 obtain⟨v2,l2,d2,k2,p2,q2,rfl,rfl,rfl,h2,r2⟩:=trodAll_cons r1
 obtain⟨v3,l3,d3,k3,p3,q3,rfl,rfl,rfl,h3,r3⟩:=trodAll_cons r2
 obtain⟨v4,l4,d4,k4,p4,q4,rfl,rfl,rfl,h4,r4⟩:=trodAll_cons r3
 obtain⟨v5,l5,d5,k5,p5,q5,rfl,rfl,rfl,h5,r5⟩:=trodAll_cons r4
 obtain⟨rfl,rfl,rfl⟩:=trodAll_nil r5
 exact⟨v0,v1,v2,v3,v4,v5,d0,d1,d2,d3,d4,d5,p0,p1,p2,p3,p4,p5,by cases args;simp_all,rfl,by simp,h0,h1,h2,h3,h4,h5⟩
theorem Yg0:(ENl.fn 3).isSome=true:=by kernel_rfl
theorem Y32:(ELo.fn 3).isSome=true:=by kernel_rfl
theorem Zkl(os:Os)(started:os.Started)(H:Type)(enc:TypeId×Value→H) :
  ReturnsInHanded {} Tryz.checked os 3 .any (fun w args=>(Rows.relocFieldSpec.pre enc Tryz.prog Tryz.f3 [] false w args∧laidMetH Tryz.prog Rows.relocFieldRow.laid w)∧sizedMet enc Tryz.prog Tryz.f3 (OpenSpec.ofChange Rows.relocFieldSpec) false w args)
   (Rows.relocFieldSpec.post enc Tryz.prog Tryz.f3 false true false false):=by
 refine Zj3 (C:=Tryz.checked) (X:=fun w _=>laidMetH Tryz.prog Rows.relocFieldRow.laid w) (fun _ _ _ hh h=>h.of_heap hh) own started (by kernel_rfl) Tryz.func3
  (ChangeSpec.witness_shaped (enc:=enc) (C:=Tryz.checked) (os:=os) (X:=fun w _=>laidMetH Tryz.prog Rows.relocFieldRow.laid w) false (World.laidAll Tryz.prog os Rows.relocFieldRow.laid) #[.int .i64 0,.int .i64 0,.slice none 0 0,.int .i64 0,.int .u64 0,.int .u64 0] 8 (World.laidAll_os _ _ _)
   (World.shaped_of_ZipB (by kernel_rfl) (by kernel_rfl)) (by kernel_rfl) (by kernel_rfl) (by kernel_rfl)
   (by rw[MakeChecks.laidMetH_plain _ _ _ Jt];exact laidMet_laidAll _ (by kernel_rfl) (by kernel_rfl))) ?_
 intro W base args ds gs before hval0 hW _ _ hL hsh _
 have hval:∀(j:Nat) t v,Tryz.f3.params[j]?=some t→args[j]?=some v→Value.okWide Tryz.prog W .any base t v:=hval0
 have hW':=hW
 obtain⟨p,q,hA0,hV,rfl,_,_⟩:=hW
 have hA:DataW.TrodAll enc Tryz.prog W 0 (fun _=>true) true Tryz.f3.params.toList args.toList ds p:=hA0
 rw[Tryz.params3] at hA hval
 obtain⟨v0,v1,v2,v3,v4,v5,d0,d1,d2,d3,d4,d5,p0,p1,p2,p3,p4,p5,rfl,rfl,rfl,h0,h1,h2,h3,h4,h5⟩:=Z0w hA
 obtain⟨rfl,rfl⟩:=trodVars_none hV
 obtain⟨t,rfl,_,_,_⟩:=open_int Tryz.underlying3 (hval 0 3 v0 rfl rfl) h0
 obtain⟨ty,rfl,_,_,_⟩:=open_int Tryz.underlying3 (hval 1 3 v1 rfl rfl) h1
 obtain⟨a,rfl,_,_,_⟩:=open_int Tryz.underlying3 (hval 3 3 v3 rfl rfl) h3
 obtain⟨s,rfl,_,_,_⟩:=open_int Tryz.underlying23 (hval 4 23 v4 rfl rfl) h4
 obtain⟨p,rfl,_,_,_⟩:=open_int Tryz.underlying23 (hval 5 23 v5 rfl rfl) h5
 have hw:=Yx7 hsh hL
 have fin:Calls Tryz.prog 3 #[.int .i64 t,.int .i64 ty,v2,.int .i64 a,.int .u64 s,.int .u64 p] W fun e w'=>e=.returned (.bool true)∧Keeps W w':=by
  rcases Yd9 Tryz.underlying22 Tryz.underlying5 Y31 Yxe (hval 2 22 v2 rfl rfl) h2 with rfl|⟨x,cap,rfl⟩|⟨len,cap,vs,m,hl0,hlc,hvl,hrel,hv,hLs⟩
  ·obtain⟨o,h⟩:=Yxu t ty a s p
   exact Zu4 Yoc Yg0 rfl (W8 _) hw (ex:=[]) (os:=[]) rfl (fun o ho=>by cases ho) (fun j m o e=>by simp at e) (b:=.nils) rfl h
  ·obtain⟨o,h⟩:=Yy1 t ty a s p
   exact Zu4 Yoc Yg0 rfl (W8 _) hw (ex:=[]) (os:=[]) rfl (fun o ho=>by cases ho) (fun j m o e=>by simp at e) (b:=.sl0) ⟨x,cap,rfl⟩ h
  ·have hx:(V9 12 0++[m])[12]?=some m:=by
    rw[List.getElem?_append_right (by rw[Wo];omega),Wo];rfl
   have ho:∀(os:List AObj)(ob:AObj),os=[ob]→Jc [] m W ob→∀(j:Nat) m2 o2,[m][j]?=some m2→os[j]?=some o2→Jc [] m2 W o2:=fun os ob e hr j m2 o2 e1 e2=>by
    subst e
    match j,e1,e2 with
    |0,e1,e2=>cases e1;cases e2;exact hr
    |j+1,e1,e2=>simp at e1
   by_cases hn:len≤400
   ·obtain⟨L,rfl⟩:=hLs (by omega)
    rw[List.length_map] at hvl
    subst hvl
    obtain⟨E,sk,o,hE,hf,hng,hsk,h⟩:=Yw2 t ty a s p hn cap hlc
    exact Zu4 hE hf hng hsk hw (ex:=[m]) (os:=[.cells L.length (bT L) 0 none 0 true false]) rfl (fun o ho=>by cases List.mem_singleton.1 ho;rfl) (ho _ _ rfl hrel) (b:=.sl 12 0 L.length (some cap)) (hv _ _ hx) h
   ·exact Zu4 Y3i Y32 rfl (W8 _) hw (ex:=[m]) (os:=[.cells len (Tr.nil.putAll 0 vs) 0 none 0 true false]) rfl (fun o ho=>by cases List.mem_singleton.1 ho;rfl) (ho _ _ rfl hrel) (b:=.sl 12 0 len (some cap)) (hv _ _ hx) (Yxa t ty a s p cap len (Tr.nil.putAll 0 vs) (by omega))
 refine fin.mono fun e W' ⟨he,hk⟩=>?_
 subst he
 exact⟨_,rfl,Yl2 laidOut Zjd rfl Tryz.underlying4 rfl ⟨rfl,by simp[Rows.relocFieldSpec],rfl⟩ hW' hk.below⟩
end
end Go.Proofs.YtaakhjmfojoodaaGreatDoor
