/- A region that lays constants into a new map, in whatever order: what it comes to, the map's entries in some order.
A row with listed variables whose contract may also ask for the world's shape; a variable that is not listed, of which only its kind is known. -/
import Derived.Test.YtmppdannkpdpmaaGreatDoorVaiG
import Derived.Test.YtmppdannkpdpmaaGreatDoorVaiH
import Derived.HandedShaped
import Derived.MakeChecks
section
namespace Go.Vai
noncomputable section
def Zrz (E : Env) (o : Oper) : Option AV :=
  match o.op with
  | .build t ps => (match Ju E .nil ps.toList with
    | some l => Zjr E t l
    | none => none)
  | _ => none
def Zut (e : Edge) : Bool := match e.ground with
  | .textOnly _ => false
  | .gcOnly _ => false
  | _ => true
def Zkh (o : Oper) (i : Nat) : Bool := o.after.toList.any fun e => Nat.beq e.on i && Zut e
def Zvq (o : Oper) : Bool := match o.op with
  | .makeMap _ none => true
  | _ => false
def Z1l (o : Oper) : Option Tmp := match o.op with
  | .move (.tmp s) => some s
  | .assign (.tmp s) => some s
  | _ => none
def Zzn (t : TypeId) (d0 : Tmp) (o : Oper) : Option (Tmp × AV) := match o.op with
  | .insert t' (.tmp m) (.tmp s) (.const c) => bif Nat.beq t' t && Nat.beq m d0 then (match Wb c with
    | some v => some (s, v)
    | none => none) else none
  | _ => none
def wrM (ops : Array Oper) (wm : Tr Nat) (s : Tmp) : Option (Nat × Oper) := match wm.get s with
  | some i => (match ops[i]? with
    | some p => (match p.dst with
      | some d => bif Nat.beq d s then some (i, p) else none
      | none => none)
    | none => none)
  | none => none
def Z3p (E : Env) (ops : Array Oper) (wm : Tr Nat) (s : Tmp) : Option AV := match wrM ops wm s with
  | some (_, o) => Zrz E o
  | none => none
def Z32 {α : Type} : Option α → Bool
  | none => true
  | some _ => false
def okI (E : Env) (ops : Array Oper) (kt : TypeId) (wm : Tr Nat) (s : Tmp) (o : Oper) : Bool :=
  Z32 o.dst && (Zkh o 0 && (match wrM ops wm s, Z3p E ops wm s with
    | some (i, _), some k => Zkh o i && Zc8 E kt k
    | _, _ => false))
def okV (ops : Array Oper) (wm : Tr Nat) (s : Tmp) (o : Oper) : Bool := match wrM ops wm s with
  | some (i, p) => Zkh o i && (Zvq p || (Z1l p).isSome)
  | none => false
def okM (E : Env) (ops : Array Oper) (t kt : TypeId) (d0 n : Nat) (wm : Tr Nat) (j : Nat) (o : Oper) : Bool :=
  Z32 o.guard && (o.after.toList.all (fun e => !(Zut e) || Nat.blt e.on j) && ((match o.dst with | some d => Nat.blt d n | none => true) &&
  (match Zzn t d0 o with
  | some (s, _) => okI E ops kt wm s o
  | none => (match Z1l o with
    | some s => okV ops wm s o
    | none => bif Zvq o then Nat.beq j 0 && (match o.dst with | some d => Nat.beq d d0 | none => false) else (Zrz E o).isSome && !(Nat.beq j 0)))))
def Zwt (E : Env) (ops : Array Oper) (t : TypeId) (d0 : Tmp) (wm : Tr Nat) (j : Nat) : Option (AV × AV) := match ops[j]? with
  | some o => (match Zzn t d0 o with
    | some (s, v) => (match Z3p E ops wm s with
      | some k => some (k, v)
      | none => none)
    | none => none)
  | none => none
structure MLit (E : Env) (ops : Array Oper) (t kt : TypeId) (d0 n : Nat) (wm : Tr Nat) : Prop where
  ty : ∃ ti v, E.ty t = some ti ∧ ti.d = .map kt v
  nle : n ≤ 1000000
  zero : ∃ o, ops[0]? = some o ∧ Zvq o = true ∧ o.dst = some d0
  ok : ∀ j o, ops[j]? = some o → okM E ops t kt d0 n wm j o = true
  unlike : ∀ i j k v l x, Zwt E ops t d0 wm i = some (k, v) → Zwt E ops t d0 wm j = some (l, x) → i ≠ j → eqK E kt k l = some false
  wr : ∀ j o d, ops[j]? = some o → o.dst = some d → wm.get d = some j
def valM (E : Env) (base : Nat) (o : Oper) : Option AV := bif Zvq o || (Z1l o).isSome then some (.mapv base) else Zrz E o
def Z2r (E : Env) (ops : Array Oper) (t : TypeId) (d0 : Tmp) (wm : Tr Nat) (j : Nat) : AV × AV := (Zwt E ops t d0 wm j).getD (.nilp, .nilp)
def esM (E : Env) (ops : Array Oper) (t : TypeId) (d0 : Tmp) (wm : Tr Nat) (p : List Nat) : List (AV × AV × Nat) := p.zipIdx.map fun x => ((Z2r E ops t d0 wm x.1).1, (Z2r E ops t d0 wm x.1).2, x.2)
end
section
variable {E : Env} {P : Program} {I : List MEnt → AHeap → World → Prop} {ih : Task → Option TRes} {ro : Option Nat} {ops : Array Oper} {t kt : TypeId} {d0 n : Nat} {wm : Tr Nat}
structure LInv (E : Env) (ro : Option Nat) (ops : Array Oper) (t : TypeId) (d0 n : Nat) (wm : Tr Nat) (fr0 : AFr) (M0 : List MEnt) (H0 : AHeap) (w0 : World) (listed : Array Bool) (a : Act) (w : World) : Prop where
  size : listed.size = ops.size
  closed : Closed ops (SL listed)
  ex : ∃ (p : List Nat) (fr : AFr) (H : AHeap) (M : List MEnt), Ext M0 H0 w0 M H w ∧ HRel M H w ∧ FRel ro M fr a ∧ (fr.n = n ∧ fr.df = fr0.df ∧ fr.rd = fr0.rd) ∧
    (∀ j o d v, ops[j]? = some o → o.dst = some d → SL listed j → valM E H0.next o = some v → fr.t.get d = some v) ∧
    (∀ x v, wm.get x = none → fr0.t.get x = some v → fr.t.get x = some v) ∧
    p.Nodup ∧ (∀ j, j ∈ p ↔ SL listed j ∧ (Zwt E ops t d0 wm j).isSome = true) ∧
    ((¬ SL listed 0 ∧ H = H0) ∨ (SL listed 0 ∧ H.next = H0.next + 1 ∧ H.get H0.next = some (.mp (esM E ops t d0 wm p) p.length false) ∧ ∀ i o, i ≠ H0.next → H0.get i = some o → H.get i = some o))
end
end Go.Vai
end
section
namespace Go.Vai
open Go Go.RowKit Go.ChangeShapes Go.WideShapes
section
variable {H : Type} {enc : TypeId × Value → H}
theorem Zdn {a : Assume} {C : Checked} {os : Os} {f : FuncId} {fn : Func} {s : ChangeSpec} {conds : List PathCond} {apart fresh handsOn again : Bool} {X : World → Array Value → Prop}
    (hX : ∀ (w w' : World) (args : Array Value), w.heap = w'.heap → X w args → X w' args)
    (own : ownKnob C.prog.godebug = none) (started : os.Started) (noInit : C.prog.inits.idxOf? f = none) (hfn : C.prog.funcs[f]? = some fn)
    (witness : ∃ (w : World) (tape : Tape) (i : Input), w.os = os ∧ (w.forCall tape i).Shaped C.prog ∧ i.vars = [] ∧ Input.okWide C.prog (w.forCall tape i) .any w.heap.size f i ∧
      ((s.pre enc C.prog fn conds apart (w.forCall tape i).memory i.args ∧ X (w.forCall tape i).memory i.args) ∧ sizedMet enc C.prog fn (OpenSpec.ofChange s) apart (w.forCall tape i).memory i.args) ∧ a.holds C.prog (lone (Frame.enter C.prog f i.args .normal) [] (w.forCall tape i)))
    (contract : ∀ (W : World) (base : Nat) (args : Array Value) (ds gs : List (DataW H)) (before : List MemPlace),
      (∀ (j : Nat) t v, fn.params[j]? = some t → args[j]? = some v → Value.okWide C.prog W .any base t v) →
      DataW.Whole enc C.prog fn.params.toList s.vars apart W args.toList ds gs before →
      conds.all (PathCond.test C.prog ⟨fn.params.toList, ds, s.plain.varTypes C.prog, gs⟩) = true →
      (DataW.weightsEach C.prog (fn.params.toList ++ s.plain.varTypes C.prog) (ds ++ gs)).all (· ≤ reachBytes) = true → X W args → W.ShapedOpen C.prog →
      a.holds C.prog (lone (Frame.enter C.prog f args .normal) [] W) →
      Calls C.prog f args W fun e W' => ∃ v, e = .returned v ∧ s.post enc C.prog fn apart fresh handsOn again W args v W') :
    ReturnsInHanded a C os f .any (fun w args => (s.pre enc C.prog fn conds apart w args ∧ X w args) ∧ sizedMet enc C.prog fn (OpenSpec.ofChange s) apart w args) (s.post enc C.prog fn apart fresh handsOn again) := by
  refine returnsInHanded_of_calls own started noInit witness fun w tape i _ shape _ ok pre met => ?_
  obtain ⟨_, _, _, g, hg, _, _, _, _, vals⟩ := ok
  cases Option.some.inj (hg.symm.trans hfn)
  obtain ⟨⟨⟨ds, gs, b, whole, cs⟩, x⟩, sized⟩ := pre
  have key := contract (w.forCall tape i) w.heap.size i.args ds gs b vals (DataW.Whole.of_heap (w' := w.forCall tape i) (by rfl) whole) cs (sized.weights whole) (hX _ _ _ (by rfl) x) shape met
  refine key.mono fun e W' h => ?_
  obtain ⟨v, rfl, post⟩ := h
  exact ChangeSpec.post_blind post
end
theorem Zp6 {P : Program} {w : World} {g : Nat} {t : TypeId} {zero : Array Value} {k : IntKind} (h : w.ShapedOpen P) (hg : g < P.globals.size) (h0 : ((begin P (fun _ _ => 0) default).world.heap[g]?).bind Obj.row? = some (zero, t)) (hz : zero.size = 1) (hm : ∃ m, w.cell? ⟨g, 0, none⟩ = some (.int k m)) : ∃ cs e lo hi, w.heap[g]? = some (.cells cs e (lo, hi)) ∧ Zs [] [.opq (some k)] cs.toList := by
  obtain ⟨cs, hh, hs, _⟩ := h.1 g zero t hg h0
  obtain ⟨m, hm⟩ := hm
  refine ⟨cs, t, 0, 0, hh, ?_⟩
  have h1 : cs.size = 1 := by omega
  simp only [World.cell?, hh] at hm
  have e : cs[0]? = some (.int k m) := by simpa using hm
  obtain ⟨l⟩ := cs
  match l, h1, e with
  | [v], _, e =>
    simp only [List.getElem?_toArray, List.getElem?_cons_zero, Option.some.injEq] at e
    subst e
    refine ⟨⟨(fun _ h => nomatch h), (fun _ h => nomatch h), fun k' h => ?_⟩, trivial⟩
    cases h
    exact ⟨m, rfl⟩
end Go.Vai
end
