/- Trees that are sound by themselves: branches may be named ahead ('Orc'), and where a map's order is open all orders are gone through. -/
import Derived.Test.YtopjbfgikglncaaGreatDoorVaiP
import Derived.Test.YtopjbfgikglncaaGreatDoorVaiSum
namespace Go.Vai
/-! ### A map's next entry, whichever -/
/-- All that 'next' may hand out. -/
noncomputable def outsA (H : AHeap) (id : Nat) : Option (List (AV × AHeap)) :=
  match H.get id with
  | some (.miter none _ _ _) => some [(.tup [.bool false], H)]
  | some (.miter (some m) since seen last) => match H.get m with
    | some (.mp es clock _) =>
      bif anyIn seen && (anyIn es && es.all fun e => Nat.ble last e.2.2) then none else
      match unseen seen es with
      | [] => some [(.tup [.bool false], H)]
      | u :: us => bif (u :: us).all (fun e => Nat.blt e.2.2 since) then some ((u :: us).map fun e => (.tup [.bool true, e.1, e.2.1], H.put id (.miter (some m) since (seen ++ [e.2.2]) clock))) else none
    | _ => none
  | _ => none
section
variable {P : Program} {M : List MEnt} {w : World}
theorem EsRel.at_ : ∀ {es : List (AV × AV × Nat)} {ces : List MapEntry}, EsRel M es ces → ∀ {i : Nat} {e : MapEntry}, ces[i]? = some e → ∃ x, es[i]? = some x ∧ VRel M x.1 e.key ∧ VRel M x.2.1 e.val ∧ e.born = x.2.2
  | [], [], _, i, e, h => by simp at h
  | (k, v, b) :: es, c :: ces, ⟨r1, r2, r3, r4⟩, 0, e, h => by
    simp only [List.getElem?_cons_zero, Option.some.injEq] at h
    subst h
    exact ⟨_, rfl, r1, r2, r3⟩
  | (k, v, b) :: es, c :: ces, ⟨_, _, _, r4⟩, i + 1, e, h => by
    simpa using EsRel.at_ r4 (i := i) (e := e) (by simpa using h)

theorem choose_map (n : Nat) (h : 0 < n) (w : World) : ∃ (j : Nat) (w1 : World), j < n ∧ w.grownBy w1 none ∧ w1.heap = w.heap ∧ (choose (Question.mapNext n)).run P w = .ok j w1 := by
  by_cases hf : n ≤ 1
  · exact ⟨0, w, h, ⟨rfl, rfl, rfl, Nat.le_refl _, fun _ _ _ => rfl⟩, rfl, by simp [choose, Sem.run, Question.forced, hf]⟩
  · exact ⟨_, w.drew, Nat.mod_lt _ h, ⟨rfl, rfl, rfl, Nat.le_refl _, fun _ _ _ => rfl⟩, rfl, by
      simp only [choose, Sem.run, Question.forced, decide_eq_true_eq, hf, if_false, Question.cut]
      rfl⟩

theorem outsA_sound {H : AHeap} (hr : HRel M H w) {id : Nat} {l : List (AV × AHeap)} (h : outsA H id = some l) {m : MEnt} (hm : M[id]? = some m) (ty : TypeId) :
    ∃ v H' cv w', (v, H') ∈ l ∧ (Instr.next (.pointer (some ⟨m.block, m.base + 0, none⟩)) false ty).run P w = .ok cv w' ∧ Ext M H w M H' w' ∧ HRel M H' w' ∧ VRel M v cv := by
  unfold outsA at h
  split at h
  · rename_i since seen last hget
    simp only [Option.some.injEq] at h
    subst h
    obtain ⟨c, hb, h0, hc⟩ := hr.blk hget hm
    simp only [MiRel] at hc
    subst hc
    have hobj : (getObj m.block).run P w = .ok (.mapIter none since (List.toArray seen) last) w := by simp [getObj, Sem.run, hb]
    refine ⟨_, _, _, w, List.mem_singleton.2 rfl, ?_, Ext.refl _ _ _, hr, ⟨[.bool false], rfl, rfl, trivial⟩⟩
    rw [h0]
    simp only [Instr.next, Sem.run_bind, hobj, Result.andThen_ok, Sem.run_pure]
  · rename_i mid since seen last hget
    split at h
    case h_2 => cases h
    rename_i es clock qro hgm
    simp only [Bool.cond_eq_ite] at h
    split at h
    case isTrue => cases h
    rename_i hguard
    obtain ⟨c, hb, h0, k, hk, rfl⟩ := hr.blk hget hm
    obtain ⟨ces, hbm, he⟩ := hr.blk hgm hk
    have hobj : (getObj m.block).run P w = .ok (.mapIter (some k.block) since (List.toArray seen) last) w := by simp [getObj, Sem.run, hb]
    have hobm : (getObj k.block).run P w = .ok (.map (List.toArray ces) clock) w := by simp [getObj, Sem.run, hbm]
    have hg : (!(List.toArray seen).isEmpty && !(List.toArray ces).isEmpty && (List.toArray ces).all (·.born ≥ last)) = false := by
      have e1 : (!(List.toArray ces).isEmpty) = anyIn es := by rw [EsRel.nil_iff he]; simp
      have e2 : (List.toArray ces).all (fun e => decide (e.born ≥ last)) = es.all fun e => Nat.ble last e.2.2 := by
        rw [← EsRel.allBorn (q := fun b => Nat.ble last b) he]
        simp only [List.all_toArray]
        congr 1
        funext e
        rw [ble_iff]
      have e3 : (!(List.toArray seen).isEmpty) = anyIn seen := by cases seen <;> simp [anyIn]
      rw [e1, e2, e3, Bool.and_assoc]
      simpa using hguard
    have hleft := unseen_rel seen he
    have hfil : (List.toArray ces).filter (fun e => !(List.toArray seen).contains e.born) = List.toArray (ces.filter fun e => !(List.toArray seen).contains e.born) := by simp
    rw [h0]
    split at h
    · rename_i hu
      simp only [Option.some.injEq] at h
      subst h
      rw [hu] at hleft
      generalize hL : ces.filter (fun e => !(List.toArray seen).contains e.born) = L at hleft hfil
      cases L with
      | cons => exact hleft.elim
      | nil =>
        refine ⟨_, _, _, w, List.mem_singleton.2 rfl, ?_, Ext.refl _ _ _, hr, ⟨[.bool false], rfl, rfl, trivial⟩⟩
        simp only [Instr.next, Sem.run_bind, hobj, hobm, Result.andThen_ok, hg, hfil]
        simp [choose, Sem.run, Question.forced]
    · rename_i u us hu
      split at h
      case isFalse => cases h
      rename_i hlt
      simp only [Option.some.injEq] at h
      subst h
      rw [hu] at hleft
      generalize hL : ces.filter (fun e => !(List.toArray seen).contains e.born) = L at hleft hfil
      have hlen : L.length = (u :: us).length := hleft.len.symm
      have hpos : 0 < L.length := by rw [hlen]; simp
      have hall : ∀ e ∈ L, e.born < since := fun e he => by
        obtain ⟨i, hi⟩ := List.getElem?_of_mem he
        obtain ⟨x, hx, _, _, hb2⟩ := hleft.at_ hi
        have := List.all_eq_true.1 hlt x (List.mem_of_getElem? hx)
        rw [hb2]
        simpa using this
      obtain ⟨j, w1, hj, hgrow, hheap, hrun⟩ := choose_map (P := P) L.length hpos w
      obtain ⟨x, hx, r1, r2, r3⟩ := hleft.at_ (List.getElem?_eq_getElem hj)
      have hr1 := hr.grown hgrow
      have hx1 := (Ext.refl M H w).grown hgrow
      have hb1 : w1.heap[m.block]? = some (.mapIter (some k.block) since (List.toArray seen) last) := by rw [hheap]; exact hb
      have hset : ∀ o : Obj, (setObj m.block o).run P w1 = .ok () { w1 with heap := w1.heap.setIfInBounds m.block o } := fun o => by simp [setObj, Sem.run, hb1]
      have hblt : m.block < w1.heap.size := (Array.getElem?_eq_some_iff.1 hb1).1
      obtain ⟨n1, n2⟩ := hr1.put hget rfl hm (grown_put' w1 m.block (.mapIter (some k.block) since (List.toArray (seen ++ [x.2.2])) clock)) (.miter (some mid) since (seen ++ [x.2.2]) clock) ⟨some k.block, by simp [hblt], h0, k, hk, rfl⟩
      refine ⟨.tup [.bool true, x.1, x.2.1], H.put id (.miter (some mid) since (seen ++ [x.2.2]) clock), .tuple #[.bool true, L[j].key, L[j].val], _, List.mem_map.2 ⟨x, List.mem_of_getElem? hx, rfl⟩, ?_, hx1.trans n2, n1, ⟨[.bool true, L[j].key, L[j].val], rfl, rfl, r1, r2, trivial⟩⟩
      simp only [Instr.next, Sem.run_bind, hobj, hobm, Result.andThen_ok, hg, hfil]
      have f1 : L.filter (fun x => decide (x.born < since)) = L := List.filter_eq_self.2 fun e he => by simpa using hall e he
      have f2 : L.filter (fun x => decide (since ≤ x.born)) = [] := List.filter_eq_nil_iff.2 fun e he => by
        have := hall e he
        simp; omega
      have hne : (List.toArray L).isEmpty = false := by
        cases L with
        | nil => simp at hpos
        | cons => simp
      simp only [List.filter_toArray, ge_iff_le, f1, f2]
      simp only [hne, Bool.false_eq_true, if_false, List.map_toArray, List.append_toArray, List.nil_append, List.size_toArray, List.length_map, List.append_nil]
      simp [Sem.run_bind, ← r3]
      have hrun' : (if (Question.mapNext L.length).forced = true then Result.ok 0 w else Result.ok ((Question.mapNext L.length).cut (w.tape w.drawn (Question.mapNext L.length))) w.drew) = Result.ok j w1 := by
        simpa [choose, Sem.run] using hrun
      split at hrun'
      · rename_i hf
        rw [if_pos hf]
        simp only [Result.ok.injEq] at hrun'
        obtain ⟨rfl, rfl⟩ := hrun'
        simp [List.getElem?_eq_getElem hj, hset]
      · rename_i hf
        rw [if_neg hf]
        simp only [Result.ok.injEq] at hrun'
        obtain ⟨rfl, rfl⟩ := hrun'
        simp [List.getElem?_eq_getElem hj, hset]
  · cases h
end

noncomputable section
variable {α : Type}
abbrev NC (α : Type) := AExit → AFr → AHeap → Orc → Option α
abbrev NCl (α : Type) := Task → Orc → (TRes → Orc → Option α) → Option α
/-- All of some ways, if they come to the same. -/
def allN (q : α → α → Bool) (k : AV × AHeap → Option α) (l : List (AV × AHeap)) : Option α :=
  List.rec (motive := fun _ => Option α) none (fun x l ih => match l with
    | [] => k x
    | _ :: _ => ob (k x) fun a => ob ih fun b => bc (q a b) (some a) none) l
theorem allN_some {q : α → α → Bool} (hq : ∀ a b, q a b = true → a = b) {k : AV × AHeap → Option α} : ∀ {l : List (AV × AHeap)} {r : α}, allN q k l = some r → ∀ x ∈ l, k x = some r
  | [], _, h => by cases h
  | [x], r, h => fun y hy => by
    rw [List.mem_singleton.1 hy]
    exact h
  | x :: y :: l, r, h => fun z hz => by
    have h' : (ob (k x) fun a => ob (allN q k (y :: l)) fun b => bc (q a b) (some a) none) = some r := h
    obtain ⟨a, ha, h1⟩ := ob_some' h'
    obtain ⟨b, hb, h2⟩ := ob_some' h1
    obtain ⟨h3, h4⟩ := bc_none h2
    cases h4
    have := hq _ _ h3
    subst this
    rcases List.mem_cons.1 hz with rfl | hz
    · exact ha
    · exact allN_some hq hb z hz

/-- One operation; a map's next entry in all ways. -/
def nxN (q : α → α → Bool) (op : Oper) (E : Env) (H : AHeap) (fr : Tr AV) (k : ARes → Option α) : Option α :=
  match op.op with
  | .next x false => ob (opdR E fr x) fun a => (match a with
    | .ptr id 0 => ob (outsA H id) fun l => allN q (fun x => k (.val x.1 x.2)) l
    | _ => none)
  | _ => kOp op E H fr k

def callResN (k kp : AV → AHeap → Orc → Option α) : TRes → Orc → Option α
  | .call (.ret v H), o => k v H o
  | .call (.pan v H), o => kp v H o
  | _, _ => none
def resN (cl : NCl α) (clD : Cl α) (H : AHeap) (k kp : AV → AHeap → Orc → Option α) (kd : FuncId → List AV → Orc → Option α) (o : Orc) : ARes → Option α
  | .val v H => k v H o
  | .skip H => k undefA H o
  | .panic v H => kp v H o
  | .call f args => cl (.call f args H) o (callResN k kp)
  | .ycall id args => clD (.yield id args H) (yieldRes fun v H => k v H o)
  | .defer f args => kd f args o
def deferN (k : AFr → AHeap → Orc → Option α) (op : Oper) (fr : AFr) (H : AHeap) (f : FuncId) (args : List AV) (o : Orc) : Option α := bc fr.rd none (k (putR ⟨fr.n, fr.t, .call f args :: fr.df, fr.rd⟩ op.dst undefA) H o)
def opN (E : Env) (clD : Cl α) (cl : NCl α) (q : α → α → Bool) (all : Array Oper) (op : Oper) (kp : AV → AFr → AHeap → Orc → Option α) (k : AFr → AHeap → Orc → Option α) : AFr → AHeap → Orc → Option α := fun fr H o =>
  wantN all fr (fun fr o => nxN q op E H fr.t fun x => resN cl clD H (fun v H o => k (putR fr op.dst v) H o) (fun v H o => kp v fr H o) (deferN k op fr H) o x) (fun fr o => k (putR fr op.dst undefA) H o) o op.guard
def opsN (E : Env) (clD : Cl α) (cl : NCl α) (q : α → α → Bool) (all : Array Oper) (k : NC α) (l : List Oper) : AFr → AHeap → Orc → Option α :=
  List.rec (motive := fun _ => AFr → AHeap → Orc → Option α) (k .normal) (fun op _ ih => opN E clD cl q all op (fun v fr H o => k (.panic v) fr H o) ih) l
def regN (E : Env) (clD : Cl α) (cl : NCl α) (q : α → α → Bool) (ops : Array Oper) (draw : Bool) (k : NC α) : AFr → AHeap → Orc → Option α := fun fr H o =>
  bc draw (regT E clD ops true (fun e fr H => k e fr H o) fr H) (opsN E clD cl q ops k ops.toList fr H o)

abbrev CN (α : Type) := NC α → AFr → AHeap → Orc → Option α
def codeResN (k : NC α) : TRes → Orc → Option α
  | .code e fr H, o => k e fr H o
  | _, _ => none
def seqN (b : CN α) (k : NC α) : NC α := fun e fr H o => AExit.rec (motive := fun _ => Option α) (b k fr H o) (fun id => k (.exit id) fr H o) (k .ret fr H o) (fun v => k (.panic v) fr H o) e
def condN (a b : CN α) (k : NC α) (fr : AFr) (H : AHeap) (o : Orc) : AV → Option α
  | .bool c => brN c (fun o => a k fr H o) (fun o => b k fr H o) o
  | _ => none
def blockN (id : Nat) (k : NC α) : NC α := fun e fr H o => AExit.rec (motive := fun _ => Option α) (k .normal fr H o) (fun i => bc (Nat.beq i id) (k .normal fr H o) (k (.exit i) fr H o)) (k .ret fr H o) (fun v => k (.panic v) fr H o) e
def loopN (cl : NCl α) (c : Code) (k : NC α) : NC α := fun e fr H o => AExit.rec (motive := fun _ => Option α) (cl (.code (.loop c) fr H) o (codeResN k)) (fun id => k (.exit id) fr H o) (k .ret fr H o) (fun v => k (.panic v) fr H o) e
def codeN (E : Env) (clD : Cl α) (cl : NCl α) (q : α → α → Bool) (c : Code) : CN α :=
  Code.rec (motive := fun _ => CN α) (fun k fr H o => k .normal fr H o) (fun _ ops draw k => regN E clD cl q ops draw k) (fun _ _ a b k => a (seqN b k)) (fun c _ _ a b k fr H o => ob (opdR E fr.t c) fun v => condN a b k fr H o v) (fun id _ a k => a (blockN id k)) (fun c a k => a (loopN cl c k))
    (fun f ps assign body _ _ k fr H o => codeKK E clD (.rangeFunc f ps assign body) (fun e fr H => k e fr H o) fr H) (fun id k fr H o => k (.exit id) fr H o) (fun _ _ _ _ _ _ => none) (fun _ k fr H o => k .normal fr H o) (fun _ _ _ _ _ => none) (fun k fr H o => k .ret fr H o) (fun _ _ _ _ _ => none) c
def retN (E : Env) (clD : Cl α) (rs : List ResultVar) (k : TRes → Orc → Option α) : NC α := fun e fr H o => retT E clD rs (fun x => k x o) e fr H
def callN1 (E : Env) (clD : Cl α) (cl : NCl α) (q : α → α → Bool) (f : FuncId) (args : List AV) (H : AHeap) (o : Orc) (k : TRes → Orc → Option α) : Option α :=
  Option.rec (motive := fun _ => Option α) (ob (E.sm f args H) fun x => k (.call (.ret x.1 x.2)) o) (fun fn => codeN E clD cl q fn.body (retN E clD fn.results k) (newFr fn args) H o) (E.fn f)
def stepN (E : Env) (clD : Cl α) (q : α → α → Bool) (cl : NCl α) : NCl α := fun t o k => match t with
  | .code c fr H => codeN E clD cl q c (fun e fr H o => k (.code e fr H) o) fr H o
  | .call f args H => callN1 E clD cl q f args H o k
  | _ => none
def taskN (E : Env) (clD : Cl α) (q : α → α → Bool) (n : Nat) : NCl α := Nat.rec (motive := fun _ => NCl α) (fun _ _ _ => none) (fun _ cl => stepN E clD q cl) n
/-- Calls by their code or by a plain summary; what lies in a region whose order is open, in ranges over functions and in deferred calls goes the plain way. -/
def callN (E : Env) (q : α → α → Bool) (n : Nat) : NCl α := taskN E (callKK E n) q n
end

/-! ### What they say -/
def CallsN (P : Program) (f : FuncId) (cargs : List Value) (M : List MEnt) (H : AHeap) (w : World) (Q : CRes → Prop) : Prop :=
  (∃ cv w' cr, (callFunc f cargs.toArray).run P w = .ok (.value cv) w' ∧ Q cr ∧ CallPost M H w cr (.returned cv) w') ∨ Enters P f cargs w fun en w' => ∃ cr, Q cr ∧ CallPost M H w cr en w'
def NPost (ro : Option Nat) (M : List MEnt) (H : AHeap) (w : World) (Q : AExit → AFr → AHeap → Prop) (x : Exit) (a : Act) (w' : World) : Prop := ∃ e fr' H', Q e fr' H' ∧ CPost ro M H w e fr' H' x a w'
structure NSound {α : Type} (E : Env) (P : Program) (I : List MEnt → AHeap → World → Prop) (cl : NCl α) : Prop where
  loop : ∀ ro c fr H o k r M w a, cl (.code (.loop c) fr H) o k = some r → St E I M H w → FRel ro M fr a → LoopWp (FF ro) P c (NPost ro M H w fun e fr' H' => ∃ o', k (.code e fr' H') o' = some r) a w
  call : ∀ f args H o k r M w cargs, cl (.call f args H) o k = some r → St E I M H w → VRels M args cargs → CallsN P f cargs M H w fun cr => ∃ o', k (.call cr) o' = some r
section
variable {α : Type} {E : Env} {P : Program} {I : List MEnt → AHeap → World → Prop} {ih : Task → Option TRes} {ro : Option Nat} {M : List MEnt} {H : AHeap} {w : World} {clD : Cl α} {cl : NCl α} {q : α → α → Bool}
theorem CallsN.of {f : FuncId} {cargs : List Value} {r : CRes} (h : CallsA P f cargs M H w r) {Q : CRes → Prop} (hq : Q r) : CallsN P f cargs M H w Q := by
  rcases h with ⟨cv, w', h1, h2⟩ | ⟨h1, h2⟩
  · exact .inl ⟨cv, w', r, h1, hq, h2⟩
  · exact .inr ⟨h1, CallsIn.mono h2 fun e w' hp => ⟨r, hq, hp⟩⟩
theorem NPost.mono {Q Q' : AExit → AFr → AHeap → Prop} (hq : ∀ e fr H, Q e fr H → Q' e fr H) {x : Exit} {a : Act} {w' : World} (h : NPost ro M H w Q x a w') : NPost ro M H w Q' x a w' := by
  obtain ⟨e, fr, H', q, p⟩ := h
  exact ⟨e, fr, H', hq _ _ _ q, p⟩
theorem NPost.after {M1 : List MEnt} {H1 : AHeap} {w1 : World} (x : Ext M H w M1 H1 w1) {Q : AExit → AFr → AHeap → Prop} {ex : Exit} {a : Act} {w' : World} (h : NPost ro M1 H1 w1 Q ex a w') : NPost ro M H w Q ex a w' := by
  obtain ⟨e, fr, H', q, p⟩ := h
  exact ⟨e, fr, H', q, p.after x⟩
theorem npost_then {Q : AExit → AFr → AHeap → Prop} {e : AExit} {fr' : AFr} {H' : AHeap} {x : Exit} {a : Act} {w' : World} {K : Act → World → Prop} (he : e ≠ .normal) (hq : Q e fr' H') (h : CPost ro M H w e fr' H' x a w') : Exit.then K (NPost ro M H w Q) x a w' := by
  have h' := h
  obtain ⟨M', _, _, h3, _⟩ := h'
  have n : NPost ro M H w Q x a w' := ⟨e, fr', H', hq, h⟩
  cases e with
  | normal => exact absurd rfl he
  | exit i => simp only [ERel] at h3; subst h3; exact n
  | ret => simp only [ERel] at h3; subst h3; exact n
  | panic v => obtain ⟨cv, rfl, _⟩ := h3; exact n

/-- What is asked of the way on. -/
structure WayOk (ro : Option Nat) (M : List MEnt) (H : AHeap) (w : World) (dst : Option Tmp) (a : Act) (next : Act → World → Prop) (Q : Exit → Act → World → Prop) (k kp : AV → AHeap → Prop) (kd : FuncId → List AV → Prop) : Prop where
  val : ∀ v H', k v H' → ∀ cv w' M', Ext M H w M' H' w' → HRel M' H' w' → VRel M' v cv → next (a.put dst cv) w'
  pan : ∀ v H', kp v H' → ∀ cv w' M', Ext M H w M' H' w' → HRel M' H' w' → VRel M' v cv → Q (.panic [{ v := cv, recovered := false }]) a w'
  dfr : ∀ f args, kd f args → ro = none ∧ ∀ d, DfRel M (.call f args) d → next ({ a with defers := d :: a.defers }.put dst undef) w
theorem opN_sound (hE : EnvOk E P I) (hs : Sound E P I ih) (hD : ClOk clD ih) (hn : NSound E P I cl) (hq : ∀ a b, q a b = true → a = b) (st : St E I M H w) {fr : AFr} {a : Act} (hf : FRel ro M fr a) {op : Oper} {o : Orc} {r : α}
    {k kp : AV → AHeap → Orc → Option α} {kd : FuncId → List AV → Orc → Option α} (h : nxN q op E H fr.t (resN cl clD H k kp kd o) = some r) {next : Act → World → Prop} {Q : Exit → Act → World → Prop}
    (hw : WayOk ro M H w op.dst a next Q (fun v H' => ∃ o', k v H' o' = some r) (fun v H' => ∃ o', kp v H' o' = some r) (fun f args => ∃ o', kd f args o' = some r)) : op.wpIn (FF ro) 0 P a w next Q := by
  have plain : kOp op E H fr.t (resN cl clD H k kp kd o) = some r → op.wpIn (FF ro) 0 P a w next Q := fun h => by
    obtain ⟨x, hx, h1⟩ := kOp_some h
    cases x with
    | val v H' => exact oper_sound hE hs st hf hx rfl fun cv w' M' x1 x2 x3 => hw.val v H' ⟨o, h1⟩ cv w' M' x1 x2 x3
    | skip H' => exact oper_sound hE hs st hf hx rfl fun w' M' x1 x2 => hw.val undefA H' ⟨o, h1⟩ undef w' M' x1 x2 (undef_rel M')
    | panic v H' => exact oper_sound hE hs st hf hx rfl fun cv w' M' x1 x2 x3 => hw.pan v H' ⟨o, h1⟩ cv w' M' x1 x2 x3
    | defer f args => exact oper_sound hE hs st hf hx rfl (hw.dfr f args ⟨o, h1⟩)
    | ycall id args =>
      obtain ⟨y, hy, h2⟩ := hD _ _ _ h1
      cases y with
      | code => cases h2
      | dcall => cases h2
      | call c =>
        cases c with
        | pan => cases h2
        | ret v H' => exact oper_sound hE hs st hf hx (r2 := .val v H') (by simp only [callsA, hy]) fun cv w' M' x1 x2 x3 => hw.val v H' ⟨o, h2⟩ cv w' M' x1 x2 x3
    | call f args =>
      refine ⟨fun _ _ => trivial, ?_⟩
      obtain ⟨cargs, hr, hargs⟩ := execA_sound hE.tys st.g st.hr hf.t hx
      rw [Oper.semAt_eq _ _ _ (execA_defer hx (fun _ _ h => by cases h)), hr]
      rcases hn.call f args H o _ r M w cargs h1 st hargs with ⟨cv, w', cr, hrun, ⟨o', ho⟩, hp⟩ | ⟨hrun, hc⟩
      · rw [hrun]
        obtain ⟨v, H', M', rfl, x1, x2, x3⟩ := hp
        exact hw.val v H' ⟨o', ho⟩ cv w' M' x1 x2 x3
      · rw [hrun]
        refine ⟨fun h => (by cases h), ?_⟩
        refine CallsIn.mono (F := FF ro) hc ?_
        rintro e w' ⟨cr, ⟨o', ho⟩, hp⟩
        cases e with
        | returned cv =>
          obtain ⟨v, H', M', rfl, x1, x2, x3⟩ := hp
          exact hw.val v H' ⟨o', ho⟩ cv w' M' x1 x2 x3
        | panicked ch =>
          obtain ⟨v, H', M', cv, rfl, rfl, x1, x2, x3⟩ := hp
          exact hw.pan v H' ⟨o', ho⟩ cv w' M' x1 x2 x3
        | outgrown => exact hp.elim
  unfold nxN at h
  split at h
  · rename_i x hop
    rw [opdR_eq] at h
    obtain ⟨v, hv, h⟩ := ob_some' h
    split at h
    case h_2 => cases h
    rename_i id
    obtain ⟨l, hl, h⟩ := ob_some' h
    obtain ⟨m, hm, hval⟩ := opd_rel st.g hf.t hv
    refine ⟨fun _ _ => trivial, ?_⟩
    obtain ⟨v, H', cv, w', hmem, hrun, x1, x2, x3⟩ := outsA_sound (P := P) st.hr hl hm op.type
    have h1 := allN_some hq h _ hmem
    rw [Oper.semAt_eq _ _ _ (fun c hc => by rw [hop] at hc; cases hc)]
    have hx : (execOp a.eval op).run P w = .ok (.value cv) w' := by
      unfold execOp
      rw [hop]
      rw [Nat.add_zero] at hrun hval
      simp [hval, hrun]
    rw [hx]
    exact hw.val v H' ⟨o, h1⟩ cv w' M x1 x2 x3
  · exact plain h

theorem opsN_sound (hE : EnvOk E P I) (hs : Sound E P I ih) (hD : ClOk clD ih) (hn : NSound E P I cl) (hq : ∀ a b, q a b = true → a = b) {ops : Array Oper} {M0 : List MEnt} {H0 : AHeap} {w0 : World} {k : NC α} {r : α} :
    ∀ (os : List Oper) (i : Nat) (fr : AFr) (H : AHeap) (o : Orc) (M : List MEnt) (w : World) (a : Act), ops.toList.drop i = os → opsN E clD cl q ops k os fr H o = some r → Ext M0 H0 w0 M H w → St E I M H w → FRel ro M fr a →
      wpOpsIn (FF ro) 0 P ops (NPost ro M0 H0 w0 fun e fr' H' => ∃ o', k e fr' H' o' = some r) (List.range' i os.length) a w := by
  intro os
  induction os with
  | nil =>
    intro i fr H o M w a _ h x st hf
    exact ⟨.normal, fr, H, ⟨o, h⟩, M, x, st.hr, rfl, hf⟩
  | cons op rest ihl =>
    intro i fr H o M w a hd h x st hf
    have ho : ops[i]? = some op := by
      have := congrArg (·[0]?) hd
      simpa using this
    have hd' : ops.toList.drop (i + 1) = rest := by
      rw [← List.tail_drop, hd]; rfl
    simp only [List.length_cons, List.range'_succ, wpOpsIn, ho]
    have h' : opN E clD cl q ops op (fun v fr H o => k (.panic v) fr H o) (opsN E clD cl q ops k rest) fr H o = some r := h
    obtain ⟨o', hw⟩ := wantN_some h'
    rcases hw with ⟨hw, h1⟩ | ⟨hw, h1⟩
    · rw [wanted_sound hf hw]
      simp only [if_true]
      refine opN_sound hE hs hD hn hq st hf h1 ⟨?_, ?_, ?_⟩
      · rintro v H1 ⟨o1, h2⟩ cv w' M' y1 y2 y3
        rw [putR_eq] at h2
        exact ihl (i + 1) _ _ o1 _ _ _ hd' h2 (x.trans y1) (st.next hE y1 y2) ((hf.mono y1.pre).put y3 op.dst)
      · rintro v H1 ⟨o1, h2⟩ cv w' M' y1 y2 y3
        exact ⟨_, _, _, ⟨o1, h2⟩, M', x.trans y1, y2, ⟨cv, rfl, y3⟩, hf.mono y1.pre⟩
      · rintro f args ⟨o1, h2⟩
        unfold deferN at h2
        rcases bc_some h2 with ⟨_, h3⟩ | ⟨hrd, h3⟩
        · cases h3
        rw [putR_eq] at h3
        refine ⟨?_, ?_⟩
        · have := hf.rd
          rw [hrd] at this
          cases ro with
          | none => rfl
          | some _ => cases this
        · intro d hdf
          exact ihl (i + 1) _ _ o1 _ _ _ hd' h3 x st (FRel.put (fr := { n := fr.n, t := fr.t, df := .call f args :: fr.df, rd := fr.rd }) (a := { a with defers := d :: a.defers }) ⟨hf.rd, hf.n, hf.t, .cons hdf hf.df⟩ (undef_rel M) op.dst)
    · rw [wanted_sound hf hw]
      simp only [Bool.false_eq_true, if_false]
      rw [putR_eq] at h1
      exact ⟨fun _ _ => trivial, ihl (i + 1) _ _ o' _ _ _ hd' h1 x st (hf.put (undef_rel M) op.dst)⟩

theorem codeN_sound (hE : EnvOk E P I) (hs : Sound E P I ih) (hD : ClOk clD ih) (hn : NSound E P I cl) (hq : ∀ a b, q a b = true → a = b) : ∀ (c : Code) (k : NC α) (fr : AFr) (H : AHeap) (o : Orc) (r : α) (M : List MEnt) (w : World) (a : Act),
    codeN E clD cl q c k fr H o = some r → St E I M H w → FRel ro M fr a → c.wpIn (FF ro) 0 P (NPost ro M H w fun e fr' H' => ∃ o', k e fr' H' o' = some r) a w := by
  have plain : ∀ (c : Code) (k : NC α) (fr : AFr) (H : AHeap) (o : Orc) (r : α) (M : List MEnt) (w : World) (a : Act), codeKK E clD c (fun e fr H => k e fr H o) fr H = some r → St E I M H w → FRel ro M fr a → c.wpIn (FF ro) 0 P (NPost ro M H w fun e fr' H' => ∃ o', k e fr' H' o' = some r) a w := by
    intro c k fr H o r M w a h st hf
    obtain ⟨e, fr', H', e1, e2⟩ := codeKK_some hD c _ fr H r h
    exact wpIn_mono (codeA_sound hE hs c fr H e fr' H' M w a e1 st hf) fun ex a1 w1 hp => ⟨e, fr', H', ⟨o, e2⟩, hp⟩
  intro c
  induction c with
  | skip => intro k fr H o r M w a h st hf; exact wpIn_skip ⟨.normal, fr, H, ⟨o, h⟩, M, Ext.refl _ _ _, st.hr, rfl, hf⟩
  | label l => intro k fr H o r M w a h st hf; exact wpIn_label ⟨.normal, fr, H, ⟨o, h⟩, M, Ext.refl _ _ _, st.hr, rfl, hf⟩
  | ret => intro k fr H o r M w a h st hf; exact wpIn_ret ⟨.ret, fr, H, ⟨o, h⟩, M, Ext.refl _ _ _, st.hr, rfl, hf⟩
  | exit id => intro k fr H o r M w a h st hf; exact wpIn_exit ⟨.exit id, fr, H, ⟨o, h⟩, M, Ext.refl _ _ _, st.hr, rfl, hf⟩
  | goto l => intro k fr H o r M w a h; cases h
  | refuse x => intro k fr H o r M w a h; cases h
  | scope c _ => intro k fr H o r M w a h; cases h
  | rangeFunc f ps as bo _ _ => intro k fr H o r M w a h st hf; exact plain _ k fr H o r M w a h st hf
  | seq x y ihx ihy =>
    intro k fr H o r M w a h st hf
    refine wpIn_seq (wpIn_mono (ihx (seqN (codeN E clD cl q y) k) fr H o r M w a h st hf) ?_)
    rintro ex a1 w1 ⟨e, fr1, H1, ⟨o1, h1⟩, hp⟩
    cases e with
    | normal =>
      obtain ⟨M1, x1, x2, x3, x4⟩ := hp
      simp only [ERel] at x3; subst x3
      exact wpIn_mono (ihy k fr1 H1 o1 r M1 w1 a1 h1 (st.next hE x1 x2) x4) fun ex a2 w2 hp => hp.after x1
    | exit i => exact npost_then (by intro h; cases h) ⟨o1, h1⟩ hp
    | ret => exact npost_then (by intro h; cases h) ⟨o1, h1⟩ hp
    | panic v => exact npost_then (by intro h; cases h) ⟨o1, h1⟩ hp
  | cond c x y ihx ihy =>
    intro k fr H o r M w a h st hf
    have h' : (ob (opdR E fr.t c) fun v => condN (codeN E clD cl q x) (codeN E clD cl q y) k fr H o v) = some r := h
    rw [opdR_eq] at h'
    obtain ⟨v, hv, h1⟩ := ob_some' h'
    cases v <;> try (cases h1; done)
    rename_i t
    have hc := opd_rel st.g hf.t hv
    simp only [VRel] at hc
    obtain ⟨o1, h2⟩ := brN_some h1
    rcases h2 with ⟨ht, h2⟩ | ⟨ht, h2⟩
    · subst ht
      exact wpIn_cond_true hc (ihx k fr H o1 r M w a h2 st hf)
    · subst ht
      exact wpIn_cond_false hc (ihy k fr H o1 r M w a h2 st hf)
  | block id c ihc =>
    intro k fr H o r M w a h st hf
    refine wpIn_block (wpIn_mono (ihc (blockN id k) fr H o r M w a h st hf) ?_)
    rintro ex a1 w1 ⟨e, fr1, H1, ⟨o1, h1⟩, M1, x1, x2, x3, x4⟩
    cases e with
    | normal => simp only [ERel] at x3; subst x3; exact ⟨.normal, fr1, H1, ⟨o1, h1⟩, M1, x1, x2, rfl, x4⟩
    | ret => simp only [ERel] at x3; subst x3; exact ⟨.ret, fr1, H1, ⟨o1, h1⟩, M1, x1, x2, rfl, x4⟩
    | panic v =>
      have x3' := x3
      obtain ⟨cv, rfl, _⟩ := x3
      exact ⟨.panic v, fr1, H1, ⟨o1, h1⟩, M1, x1, x2, x3', x4⟩
    | exit i =>
      simp only [ERel] at x3; subst x3
      have h2 : bc (Nat.beq i id) (k .normal fr1 H1 o1) (k (.exit i) fr1 H1 o1) = some r := h1
      simp only [Exit.inBlock]
      rcases bc_some h2 with ⟨hi, h3⟩ | ⟨hi, h3⟩
      · rw [Nat.beq_eq] at hi
        rw [if_pos hi]
        exact ⟨.normal, fr1, H1, ⟨o1, h3⟩, M1, x1, x2, rfl, x4⟩
      · rw [if_neg (Nat.ne_of_beq_eq_false hi)]
        exact ⟨.exit i, fr1, H1, ⟨o1, h3⟩, M1, x1, x2, rfl, x4⟩
  | loop c ihc =>
    intro k fr H o r M w a h st hf
    refine loopWp_loop (loopWp_of (wpIn_mono (ihc (loopN cl c k) fr H o r M w a h st hf) ?_))
    rintro ex a1 w1 ⟨e, fr1, H1, ⟨o1, h1⟩, hp⟩
    cases e with
    | normal =>
      obtain ⟨M1, x1, x2, x3, x4⟩ := hp
      simp only [ERel] at x3; subst x3
      intro b kk cs hro hb hr
      obtain ⟨e2, a2, w2, q, rr⟩ := hn.loop ro c fr1 H1 o1 (codeResN k) r M1 w1 a1 h1 (st.next hE x1 x2) x4 b kk cs hro hb hr
      exact ⟨e2, a2, w2, q.after x1, rr⟩
    | exit i => exact npost_then (by intro h; cases h) ⟨o1, h1⟩ hp
    | ret => exact npost_then (by intro h; cases h) ⟨o1, h1⟩ hp
    | panic v => exact npost_then (by intro h; cases h) ⟨o1, h1⟩ hp
  | region id ops draw =>
    intro k fr H o r M w a h st hf
    cases draw with
    | true => exact plain (.region id ops true) k fr H o r M w a h st hf
    | false =>
      have h1 : opsN E clD cl q ops k ops.toList fr H o = some r := h
      refine wpIn_region ?_
      have := opsN_sound (ro := ro) hE hs hD hn hq ops.toList 0 fr H o M w a rfl h1 (Ext.refl _ _ _) st hf
      rw [List.range_eq_range']
      exact this

theorem leavesIn_mono {F : Fence} {n : Nat} {fn : Func} {tmps : Array Value} {R R' : Ending → World → Prop} (hr : ∀ e w, R e w → R' e w) : ∀ (u : FrameMode) (w : World), LeavesIn F n P fn tmps R [] u w → LeavesIn F n P fn tmps R' [] u w
  | .returning, _w, ⟨v, h1, h2⟩ => ⟨v, h1, hr _ _ h2⟩
  | .panicking _ch, _w, h => hr _ _ h
  | .run, _, h => h
theorem leavesInM_mono {F : Fence} {n : Nat} {fn : Func} {tmps : Array Value} {R R' : Ending → World → Prop} (hr : ∀ e w, R e w → R' e w) : ∀ (ds : List Deferred) (u : FrameMode) (w : World), LeavesInM F n P fn tmps R ds u w → LeavesInM F n P fn tmps R' ds u w
  | [], u, w, h => leavesIn_mono hr u w h
  | d :: ds, u, w, ⟨h1, h2⟩ => by
    refine ⟨h1, ?_⟩
    rcases h2 with ⟨r, w', e1, e2, e3⟩ | ⟨e0, fv, cap, f, args, e1, e2, e3, e4⟩
    · exact .inl ⟨r, w', e1, e2, leavesInM_mono hr ds u w' e3⟩
    · refine .inr ⟨e0, fv, cap, f, args, e1, e2, e3, CallsDIn.mono e4 fun e u' w' h => ?_⟩
      cases e with
      | returned _ => exact leavesInM_mono hr ds _ w' h
      | panicked _ => exact leavesInM_mono hr ds _ w' h
      | outgrown => exact hr _ _ h

theorem callN1_sound (hE : EnvOk E P I) (hs : Sound E P I ih) (hD : ClOk clD ih) (hn : NSound E P I cl) (hq : ∀ a b, q a b = true → a = b) {f : FuncId} {args : List AV} {H : AHeap} {o : Orc} {k : TRes → Orc → Option α} {r : α} {M : List MEnt} {w : World} {cargs : List Value}
    (h : callN1 E clD cl q f args H o k = some r) (st : St E I M H w) (ha : VRels M args cargs) : CallsN P f cargs M H w fun cr => ∃ o', k (.call cr) o' = some r := by
  have h' : Option.rec (motive := fun _ => Option α) (ob (E.sm f args H) fun x => k (.call (.ret x.1 x.2)) o) (fun fn => codeN E clD cl q fn.body (retN E clD fn.results k) (newFr fn args) H o) (E.fn f) = some r := h
  cases hf : E.fn f with
  | none =>
    rw [hf] at h'
    obtain ⟨x, hx, h1⟩ := ob_some' h'
    exact .of (hE.sm f args H x.1 x.2 M w cargs hf hx st ha) ⟨o, h1⟩
  | some fn =>
    rw [hf] at h'
    have h1 : codeN E clD cl q fn.body (retN E clD fn.results k) (newFr fn args) H o = some r := h'
    obtain ⟨Fn, hF⟩ := hE.fns f fn hf
    refine .inr ⟨enter_run hF _, callsIn_of_wp_marks hF.at_ hF.body trivial (wpIn_mono (codeN_sound (ro := none) hE hs hD hn hq fn.body _ _ H o r M w _ h1 st (newFr_rel hF ha)) ?_)⟩
    rintro ex a1 w1 ⟨e, fr1, H1, ⟨o1, h2⟩, M1, x1, x2, x3, x4⟩
    have go : ∀ (p : Option AV) (u : FrameMode), URel M1 p u → leaveT E clD fn.results fr1.t (fun x => k x o1) fr1.df p H1 = some r →
        LeavesInM Fence.wide 0 P Fn a1.tmps (fun en w' => ∃ cr, (∃ o', k (.call cr) o' = some r) ∧ CallPost M H w cr en w') a1.defers u w1 := by
      intro p u hu hl
      obtain ⟨x, hx, h3⟩ := leaveT_some hD hl
      have hcr : ∃ cr, x = .call cr := by
        clear hl h3
        have : ∀ (ds : List ADf) (p : Option AV) (H1 : AHeap), leaveA E ih fn.results fr1.t ds p H1 = some x → ∃ cr, x = .call cr := by
          intro ds
          induction ds with
          | nil =>
            intro p H1 hx
            cases p with
            | none =>
              simp only [leaveA] at hx
              split at hx
              · simp only [Option.some.injEq] at hx; exact ⟨_, hx.symm⟩
              · cases hx
            | some v => simp only [leaveA, Option.some.injEq] at hx; exact ⟨_, hx.symm⟩
          | cons d ds ihd =>
            intro p H1 hx
            cases d with
            | mark id =>
              simp only [leaveA] at hx
              split at hx
              · exact ihd _ _ hx
              · cases hx
            | call g as =>
              simp only [leaveA] at hx
              split at hx
              · exact ihd _ _ hx
              · cases hx
        exact this _ _ _ hx
      obtain ⟨cr, rfl⟩ := hcr
      exact leavesInM_mono (fun e w' hp => ⟨cr, ⟨o1, h3⟩, hp⟩) _ _ _ (leaveA_sound hE hs hF (M0 := M) (H0 := H) (w0 := w) _ _ _ M1 w1 _ _ hx x1 (st.next hE x1 x2) x4.t x4.df hu)
    cases e with
    | normal => simp only [ERel] at x3; subst x3; exact go none _ rfl h2
    | ret => simp only [ERel] at x3; subst x3; exact go none _ rfl h2
    | panic v =>
      obtain ⟨cv, rfl, x3⟩ := x3
      exact go (some v) _ ⟨cv, rfl, x3⟩ h2
    | exit i => cases h2

theorem stepN_sound (hE : EnvOk E P I) (hs : Sound E P I ih) (hD : ClOk clD ih) (hn : NSound E P I cl) (hq : ∀ a b, q a b = true → a = b) : NSound E P I (stepN E clD q cl) where
  loop := by
    intro ro c fr H o k r M w a h st hf
    have h' : codeN E clD cl q c (loopN cl c fun e fr H o => k (.code e fr H) o) fr H o = some r := h
    refine loopWp_of (wpIn_mono (codeN_sound hE hs hD hn hq c _ fr H o r M w a h' st hf) ?_)
    rintro ex a1 w1 ⟨e, fr1, H1, ⟨o1, h1⟩, hp⟩
    cases e with
    | normal =>
      obtain ⟨M1, x1, x2, x3, x4⟩ := hp
      simp only [ERel] at x3; subst x3
      intro b kk cs hro hb hr
      obtain ⟨e2, a2, w2, q, rr⟩ := hn.loop ro c fr1 H1 o1 (codeResN fun e fr H o => k (.code e fr H) o) r M1 w1 a1 h1 (st.next hE x1 x2) x4 b kk cs hro hb hr
      exact ⟨e2, a2, w2, q.after x1, rr⟩
    | exit i => exact npost_then (by intro h; cases h) ⟨o1, h1⟩ hp
    | ret => exact npost_then (by intro h; cases h) ⟨o1, h1⟩ hp
    | panic v => exact npost_then (by intro h; cases h) ⟨o1, h1⟩ hp
  call := fun f args H o k r M w cargs h st ha => callN1_sound hE hs hD hn hq h st ha
theorem taskN_sound (hE : EnvOk E P I) (hs : Sound E P I ih) (hD : ClOk clD ih) (hq : ∀ a b, q a b = true → a = b) : ∀ n, NSound E P I (taskN E clD q n)
  | 0 => ⟨fun _ _ _ _ _ _ _ _ _ _ h => (by cases h), fun _ _ _ _ _ _ _ _ _ h => (by cases h)⟩
  | n + 1 => stepN_sound hE hs hD (taskN_sound hE hs hD hq n) hq
theorem callN_sound (hE : EnvOk E P I) (hq : ∀ a b, q a b = true → a = b) (n : Nat) : NSound E P I (callN E q n) := taskN_sound hE (sound_run hE n) (callKK_ok E n) hq n
end
end Go.Vai
