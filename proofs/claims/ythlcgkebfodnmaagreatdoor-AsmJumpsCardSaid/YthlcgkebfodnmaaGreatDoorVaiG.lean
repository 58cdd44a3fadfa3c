/- The tree form of the whole interpreter: regions, loops, ranges over functions, calls, panics, deferred calls.
Trees whose branches may be named ahead ('Orc'): what they say, the interpreter answers.
What a function's body is shown to do from known memory, as a summary of its call in whatever memory.
Trees that are sound by themselves: branches may be named ahead ('Orc'), and where a map's order is open all orders are gone through. -/
import Derived.Test.YthlcgkebfodnmaaGreatDoorVaiF
section
namespace Go.Vai
noncomputable section
theorem Tr.setF_same {β : Type} : ∀ (f : Nat) (t : Tr β) (i : Nat) (x : β), i + 1 < 2 ^ f → t.get i = some x → Tr.setF f t i (some x) = t := by
  intro f
  induction f with
  | zero => intro t i x h; omega
  | succ f ih =>
    intro t i x h hg
    cases t with
    | nil => simp [Tr.get_nil] at hg
    | node v l r =>
      cases i with
      | zero => rw [Tr.get_zero] at hg; rw [Tr.setF_tz, hg]
      | succ i =>
        have hi : i / 2 + 1 < 2 ^ f := by rw [Nat.pow_succ] at h; omega
        rw [Tr.get_succ] at hg
        rw [Tr.setF_ts]
        cases hb : Nat.beq (i % 2) 0 with
        | true => rw [hb] at hg; simp only [cond_true] at hg ⊢; rw [ih l _ x hi hg]
        | false => rw [hb] at hg; simp only [cond_false] at hg ⊢; rw [ih r _ x hi hg]
theorem Tr.set_same {β : Type} {t : Tr β} {i : Nat} {x : β} (h : i < 1000001) (hg : t.get i = some x) : t.set i x = t := Tr.setF_same 48 t i x (by omega) hg
section
variable {α : Type}
abbrev KC (α : Type) := AExit → AFr → AHeap → Option α
abbrev Cl (α : Type) := Task → (TRes → Option α) → Option α
def ClOk (cl : Cl α) (ih : Task → Option TRes) : Prop := ∀ t k r, cl t k = some r → ∃ x, ih t = some x ∧ k x = some r
def fixB (fr : AFr) (d : Nat) (b : Bool) : AFr := ⟨fr.n, fr.t.set d (.bool b), fr.df, fr.rd⟩
theorem fixB_eq {fr : AFr} {d : Nat} {b : Bool} (h : d < 1000001) (hg : fr.t.get d = some (.bool b)) : fixB fr d b = fr := by
  unfold fixB
  rw [Tr.set_same h hg]
def wantV (fr : AFr) (d : Nat) (want : Bool) (kt kf : AFr → Option α) : AV → Option α
  | .bool b => bc (Nat.blt d 1000001) (bc b (bc want (kt (fixB fr d true)) (kf (fixB fr d true))) (bc want (kf (fixB fr d false)) (kt (fixB fr d false)))) none
  | .tup _ => kf fr
  | _ => none
def wantGo (all : Array Oper) (fr : AFr) (kt kf : AFr → Option α) : Option (Nat × Bool) → Option α
  | none => kt fr
  | some (j, want) => match (all[j]?).bind (·.dst) with
    | none => kf fr
    | some d => ob (fr.t.get d) fun v => wantV fr d want kt kf v
theorem wantGo_some {all : Array Oper} {fr : AFr} {kt kf : AFr → Option α} {o : Oper} {r : α} (h : wantGo all fr kt kf o.guard = some r) : (wantedA all fr.t o = some true ∧ kt fr = some r) ∨ (wantedA all fr.t o = some false ∧ kf fr = some r) := by
  unfold wantedA
  cases hg : o.guard with
  | none => rw [hg] at h; exact .inl ⟨rfl, h⟩
  | some g =>
    obtain ⟨j, want⟩ := g
    rw [hg] at h
    simp only [wantGo] at h ⊢
    cases hd : (all[j]?).bind (·.dst) with
    | none => rw [hd] at h; exact .inr ⟨rfl, h⟩
    | some d =>
      rw [hd] at h
      simp only at h ⊢
      obtain ⟨v, hv, h⟩ := ob_some' h
      rw [hv]
      cases v <;> try (cases h; done)
      case bool b =>
        simp only [wantV] at h
        obtain ⟨hlt, h⟩ := bc_none h
        rw [Nat.blt_eq] at hlt
        have e := fixB_eq hlt hv
        cases b with
        | true =>
          simp only [bc_true, e] at h
          cases want with
          | true => exact .inl ⟨rfl, h⟩
          | false => exact .inr ⟨rfl, h⟩
        | false =>
          simp only [bc_false, e] at h
          cases want with
          | true => exact .inr ⟨rfl, h⟩
          | false => exact .inl ⟨rfl, h⟩
      case tup l => exact .inr ⟨rfl, h⟩
def callRes (k : AV → AHeap → Option α) (kp : AV → AHeap → Option α) : TRes → Option α
  | .call (.ret v H) => k v H
  | .call (.pan v H) => kp v H
  | _ => none
def yieldRes (k : AV → AHeap → Option α) : TRes → Option α
  | .call (.ret v H) => k v H
  | _ => none
def resT (cl : Cl α) (H : AHeap) (k kp : AV → AHeap → Option α) (kd : FuncId → List AV → Option α) : ARes → Option α
  | .val v H => k v H
  | .skip H => k undefA H
  | .panic v H => kp v H
  | .call f args => cl (.call f args H) (callRes k kp)
  | .ycall id args => cl (.yield id args H) (yieldRes k)
  | .defer f args => kd f args
theorem resT_some {cl : Cl α} {ih : Task → Option TRes} (hc : ClOk cl ih) {H : AHeap} {k kp : AV → AHeap → Option α} {kd : FuncId → List AV → Option α} {x : ARes} {r : α} (h : resT cl H k kp kd x = some r) :
    (∃ v H', (callsA ih H x = some (.val v H') ∨ (callsA ih H x = some (.skip H') ∧ v = undefA)) ∧ k v H' = some r) ∨ (∃ v H', callsA ih H x = some (.panic v H') ∧ kp v H' = some r) ∨ (∃ f args, callsA ih H x = some (.defer f args) ∧ kd f args = some r) := by
  cases x with
  | val v H1 => exact .inl ⟨v, H1, .inl rfl, h⟩
  | skip H1 => exact .inl ⟨undefA, H1, .inr ⟨rfl, rfl⟩, h⟩
  | panic v H1 => exact .inr (.inl ⟨v, H1, rfl, h⟩)
  | defer f args => exact .inr (.inr ⟨f, args, rfl, h⟩)
  | call f args =>
    obtain ⟨y, hy, h1⟩ := hc _ _ _ h
    cases y with
    | call c =>
      cases c with
      | ret v H1 => exact .inl ⟨v, H1, .inl (by simp [callsA, hy]), h1⟩
      | pan v H1 => exact .inr (.inl ⟨v, H1, by simp [callsA, hy], h1⟩)
    | code => cases h1
    | dcall => cases h1
  | ycall id args =>
    obtain ⟨y, hy, h1⟩ := hc _ _ _ h
    cases y with
    | call c =>
      cases c with
      | ret v H1 => exact .inl ⟨v, H1, .inl (by simp [callsA, hy]), h1⟩
      | pan v H1 => cases h1
    | code => cases h1
    | dcall => cases h1
def deferT (k : AFr → AHeap → Option α) (o : Oper) (fr : AFr) (H : AHeap) (f : FuncId) (args : List AV) : Option α := bc fr.rd none (k (putR ⟨fr.n, fr.t, .call f args :: fr.df, fr.rd⟩ o.dst undefA) H)
def opT (E : Env) (cl : Cl α) (all : Array Oper) (o : Oper) (kp : AV → AFr → AHeap → Option α) (k : AFr → AHeap → Option α) : AFr → AHeap → Option α := fun fr H =>
  wantGo all fr (fun fr => kOp o E H fr.t fun x => resT cl H (fun v H => k (putR fr o.dst v) H) (fun v H => kp v fr H) (deferT k o fr H) x) (fun fr => k (putR fr o.dst undefA) H) o.guard
def opsT (E : Env) (cl : Cl α) (all : Array Oper) (k : KC α) (l : List Oper) : AFr → AHeap → Option α :=
  List.rec (motive := fun _ => AFr → AHeap → Option α) (k .normal) (fun o _ ih => opT E cl all o (fun v fr H => k (.panic v) fr H) ih) l
theorem opsT_some {E : Env} {cl : Cl α} {ih : Task → Option TRes} (hc : ClOk cl ih) {all : Array Oper} {k : KC α} : ∀ {l : List Oper} {fr : AFr} {H : AHeap} {r : α}, opsT E cl all k l fr H = some r →
    ∃ e fr' H', opsA E ih all l fr H = some (.code e fr' H') ∧ k e fr' H' = some r := by
  intro l
  induction l with
  | nil => intro fr H r h; exact ⟨.normal, fr, H, rfl, h⟩
  | cons o l ihl =>
    intro fr H r h
    have h' : opT E cl all o (fun v fr H => k (.panic v) fr H) (opsT E cl all k l) fr H = some r := h
    simp only [opsA]
    rcases wantGo_some h' with ⟨hw, h1⟩ | ⟨hw, h1⟩
    · obtain ⟨x, hx, h2⟩ := kOp_some h1
      simp only [hw, hx]
      rcases resT_some hc h2 with ⟨y, H1, hy, h3⟩ | ⟨y, H1, hy, h3⟩ | ⟨f, args, hy, h3⟩
      · rw [putR_eq] at h3
        obtain ⟨e, fr', H', e1, e2⟩ := ihl h3
        refine ⟨e, fr', H', ?_, e2⟩
        rcases hy with hy | ⟨hy, rfl⟩
        · simp only [hy]; exact e1
        · simp only [hy]; exact e1
      · exact ⟨_, _, _, by simp only [hy], h3⟩
      · unfold deferT at h3
        rcases bc_some h3 with ⟨_, h4⟩ | ⟨hrd, h4⟩
        · cases h4
        · rw [putR_eq] at h4
          obtain ⟨e, fr', H', e1, e2⟩ := ihl h4
          exact ⟨e, fr', H', by simp only [hy, hrd, cond_false]; rw [hrd] at e1; exact e1, e2⟩
    · rw [putR_eq] at h1
      obtain ⟨e, fr', H', e1, e2⟩ := ihl h1
      exact ⟨e, fr', H', by simp only [hw]; exact e1, e2⟩
abbrev DK (α : Type) := Nat → List QRec → List ERec → AFr → AHeap → Option α
def sameV_w (x : ARes) (v : AV) : Bool := match x with
  | .val u _ => AV.eqb u v
  | _ => false
def memK (E : Env) (o : Oper) (fr : Tr AV) (v : AV) (H : AHeap) (rest : Option α) : Option α := kOp o E H fr fun x => bc (sameV_w x v) rest none
def allE (E : Env) (o : Oper) (fr : Tr AV) (v : AV) (m : Nat) (rest : Option α) (es : List ERec) : Option α := List.rec (motive := fun _ => Option α) rest (fun e _ ih => bc (bitIn m e.j) ih (memK E o fr v e.H ih)) es
def allQ (E : Env) (H : AHeap) (m : Nat) (rest : Option α) (qs : List QRec) : Option α := List.rec (motive := fun _ => Option α) rest (fun q _ ih => bc (bitIn m q.i) ih (memK E q.o q.fr q.v H ih)) qs
theorem memK_some {E : Env} {o : Oper} {fr : Tr AV} {v : AV} {H : AHeap} {rest : Option α} {r : α} (i : Nat) (h : memK E o fr v H rest = some r) : sameAt E H ⟨i, o, fr, v⟩ = true ∧ rest = some r := by
  obtain ⟨x, hx, h1⟩ := kOp_some h
  obtain ⟨h2, h3⟩ := bc_none h1
  unfold sameV_w at h2
  split at h2
  · rename_i u H1
    exact ⟨by simp only [sameAt, quietA, hx]; exact h2, h3⟩
  · cases h2
theorem allE_some {E : Env} {o : Oper} {fr : Tr AV} {v : AV} {m : Nat} {rest : Option α} {r : α} (i : Nat) : ∀ {es : List ERec}, allE E o fr v m rest es = some r → stableE E ⟨i, o, fr, v⟩ m es = true ∧ rest = some r := by
  intro es
  induction es with
  | nil => intro h; exact ⟨rfl, h⟩
  | cons e es ih =>
    intro h
    have h' : bc (bitIn m e.j) (allE E o fr v m rest es) (memK E o fr v e.H (allE E o fr v m rest es)) = some r := h
    rcases bc_some h' with ⟨hb, h1⟩ | ⟨_, h1⟩
    · obtain ⟨a, b⟩ := ih h1
      exact ⟨by simp only [stableE, hb, a, Bool.true_or, Bool.and_self], b⟩
    · obtain ⟨c, h2⟩ := memK_some i h1
      obtain ⟨a, b⟩ := ih h2
      exact ⟨by simp only [stableE, c, a, Bool.or_true, Bool.and_self], b⟩
theorem allQ_some {E : Env} {H : AHeap} {m : Nat} {rest : Option α} {r : α} : ∀ {qs : List QRec}, allQ E H m rest qs = some r → stableQ E H m qs = true ∧ rest = some r := by
  intro qs
  induction qs with
  | nil => intro h; exact ⟨rfl, h⟩
  | cons q qs ih =>
    intro h
    have h' : bc (bitIn m q.i) (allQ E H m rest qs) (memK E q.o q.fr q.v H (allQ E H m rest qs)) = some r := h
    rcases bc_some h' with ⟨hb, h1⟩ | ⟨_, h1⟩
    · obtain ⟨a, b⟩ := ih h1
      exact ⟨by simp only [stableQ, hb, a, Bool.true_or, Bool.and_self], b⟩
    · obtain ⟨c, h2⟩ := memK_some q.i h1
      obtain ⟨a, b⟩ := ih h2
      exact ⟨by simp only [stableQ, c, a, Bool.or_true, Bool.and_self], b⟩
def dRes (E : Env) (cl : Cl α) (an : Tr Nat) (all : Array Oper) (fr0 : AFr) (o : Oper) (rest : List Oper) (i m : Nat) (qs : List QRec) (es : List ERec) (fr : AFr) (H : AHeap) (q : Bool) (kc : KC α) (k : DK α) (x : ARes) : Option α :=
  bc q (match x with
      | .val v H' => allE E o fr.t v m (k (i + 1) (⟨i, o, fr.t, v⟩ :: qs) es (putR fr o.dst v) H') es
      | _ => none)
    (resT cl H (fun v H' => allQ E H' m (k (i + 1) qs (⟨i, H⟩ :: es) (putR fr o.dst v) H') qs) (fun v H' => bc (restOk an i rest (i + 1)) (kc (.panic v) ⟨fr0.n, delDsts fr0.t all.toList, fr0.df, fr0.rd⟩ H') none) (fun _ _ => none) x)
def dOpT (E : Env) (cl : Cl α) (an : Tr Nat) (all : Array Oper) (fr0 : AFr) (kc : KC α) (o : Oper) (rest : List Oper) (k : DK α) : DK α := fun i qs es fr H =>
  wantGo all fr (fun fr => ob (an.get i) fun m => kOp o E H fr.t fun x => dRes E cl an all fr0 o rest i m qs es fr H (quietOp E o.op) kc k x) (fun fr => k (i + 1) qs es (putR fr o.dst undefA) H) o.guard
def opsDT (E : Env) (cl : Cl α) (an : Tr Nat) (all : Array Oper) (fr0 : AFr) (kc : KC α) (l : List Oper) : DK α :=
  List.rec (motive := fun _ => DK α) (fun _ _ _ fr H => kc .normal fr H) (fun o rest k => dOpT E cl an all fr0 kc o rest k) l
theorem opsDT_some {E : Env} {cl : Cl α} {ih : Task → Option TRes} (hc : ClOk cl ih) {an : Tr Nat} {all : Array Oper} {fr0 : AFr} {kc : KC α} : ∀ {l : List Oper} {i : Nat} {qs : List QRec} {es : List ERec} {fr : AFr} {H : AHeap} {r : α},
    opsDT E cl an all fr0 kc l i qs es fr H = some r → ∃ e fr' H', opsD E ih all an fr0 l i qs es fr H = some (.code e fr' H') ∧ kc e fr' H' = some r := by
  intro l
  induction l with
  | nil => intro i qs es fr H r h; exact ⟨.normal, fr, H, rfl, h⟩
  | cons o l ihl =>
    intro i qs es fr H r h
    have h' : dOpT E cl an all fr0 kc o l (opsDT E cl an all fr0 kc l) i qs es fr H = some r := h
    simp only [opsD]
    rcases wantGo_some h' with ⟨hw, h1⟩ | ⟨hw, h1⟩
    · obtain ⟨m, hm, h2⟩ := ob_some' h1
      obtain ⟨x, hx, h3⟩ := kOp_some h2
      unfold dRes at h3
      cases hq : quietOp E o.op with
      | true =>
        rw [hq, bc_true] at h3
        cases x <;> try (cases h3; done)
        rename_i v H1
        obtain ⟨ha, h4⟩ := allE_some i h3
        rw [putR_eq] at h4
        have hH := quiet_same hq hx
        obtain ⟨e, fr', H', e1, e2⟩ := ihl (qs := ⟨i, o, fr.t, v⟩ :: qs) (es := es) h4
        refine ⟨e, fr', H', ?_, e2⟩
        simp only [hw, hm, hx, cond_true, ha]
        rw [hH] at e1
        exact e1
      | false =>
        rw [hq, bc_false] at h3
        rcases resT_some hc h3 with ⟨y, H1, hy, h5⟩ | ⟨y, H1, hy, h5⟩ | ⟨f, args, hy, h5⟩
        · obtain ⟨ha, h6⟩ := allQ_some h5
          rw [putR_eq] at h6
          obtain ⟨e, fr', H', e1, e2⟩ := ihl (qs := qs) (es := ⟨i, H⟩ :: es) h6
          refine ⟨e, fr', H', ?_, e2⟩
          simp only [hw, hm, hx, cond_false]
          rcases hy with hy | ⟨hy, rfl⟩
          · simp only [hy, ha, cond_true]; exact e1
          · simp only [hy, ha, cond_true]; exact e1
        · obtain ⟨h6, h7⟩ := bc_none h5
          exact ⟨_, _, _, by simp only [hw, hm, hx, cond_false, hy, h6, cond_true], h7⟩
        · cases h5
    · rw [putR_eq] at h1
      obtain ⟨e, fr', H', e1, e2⟩ := ihl h1
      exact ⟨e, fr', H', by simp only [hw]; exact e1, e2⟩
def regT (E : Env) (cl : Cl α) (ops : Array Oper) (draw : Bool) (k : KC α) : AFr → AHeap → Option α := fun fr H =>
  bc draw (ob (ancs ops.toList 0 .nil) fun an => bc (allOk E an ops.toList && (Nat.ble fr.n 1000000 && Nat.ble ops.size 1000000)) (opsDT E cl an ops fr k ops.toList 0 [] [] fr H) none) (opsT E cl ops k ops.toList fr H)
theorem regT_some {E : Env} {cl : Cl α} {ih : Task → Option TRes} (hc : ClOk cl ih) {ops : Array Oper} {draw : Bool} {k : KC α} {fr : AFr} {H : AHeap} {r : α} (h : regT E cl ops draw k fr H = some r) :
    ∃ e fr' H', regionA E ih ops draw fr H = some (.code e fr' H') ∧ k e fr' H' = some r := by
  unfold regT at h
  unfold regionA
  cases draw with
  | false => rw [bc_false] at h; exact opsT_some hc h
  | true =>
    rw [bc_true] at h
    obtain ⟨an, han, h1⟩ := ob_some' h
    obtain ⟨hb, h2⟩ := bc_none h1
    obtain ⟨e, fr', H', e1, e2⟩ := opsDT_some (qs := []) (es := []) (fr0 := fr) hc h2
    refine ⟨e, fr', H', ?_, e2⟩
    simp only [cond_true, han, hb]
    exact e1
abbrev CK' (α : Type) := KC α → AFr → AHeap → Option α
def codeRes (k : KC α) : TRes → Option α
  | .code e fr H => k e fr H
  | _ => none
def seqKK (b : CK' α) (k : KC α) : KC α := fun e fr H => AExit.rec (motive := fun _ => Option α) (b k fr H) (fun id => k (.exit id) fr H) (k .ret fr H) (fun v => k (.panic v) fr H) e
def condV (a b : CK' α) (k : KC α) (fr : AFr) (H : AHeap) : AV → Option α
  | .bool c => bc c (a k fr H) (b k fr H)
  | _ => none
def blockKK (id : Nat) (k : KC α) : KC α := fun e fr H => AExit.rec (motive := fun _ => Option α) (k .normal fr H) (fun i => bc (Nat.beq i id) (k .normal fr H) (k (.exit i) fr H)) (k .ret fr H) (fun v => k (.panic v) fr H) e
def loopKK (cl : Cl α) (c : Code) (k : KC α) : KC α := fun e fr H => AExit.rec (motive := fun _ => Option α) (cl (.code (.loop c) fr H) (codeRes k)) (fun id => k (.exit id) fr H) (k .ret fr H) (fun v => k (.panic v) fr H) e
def rangeRes (k : KC α) (fr : AFr) (nx : Nat) : TRes → Option α
  | .call (.ret _ H') => match H'.get (nx + 1) with
    | some (.loop .busy _ _ _ _ _ _ _) => none
    | some (.loop _ none n t p a b d) => k .normal ⟨fr.n, fr.t, .mark nx :: fr.df, fr.rd⟩ (H'.put (nx + 1) (.loop .exhausted none n t p a b d))
    | some (.loop _ (some .ret) n t p a b d) => k .ret ⟨fr.n, fr.t, .mark nx :: fr.df, fr.rd⟩ (H'.put (nx + 1) (.loop .exhausted (some .ret) n t p a b d))
    | some (.loop _ (some (.exit i)) n t p a b d) => k (.exit i) ⟨fr.n, fr.t, .mark nx :: fr.df, fr.rd⟩ (H'.put (nx + 1) (.loop .exhausted (some (.exit i)) n t p a b d))
    | _ => none
  | _ => none
def rangeV (E : Env) (cl : Cl α) (ps : Array Nat) (assign body : Code) (k : KC α) (fr : AFr) (H : AHeap) : AV → Option α
  | .fn g first cap => ob (E.fn g) fun _ => cl (.call g (first ++ (.yld (H.next + 1) :: cap)) ((H.new .dfr).new (.loop .ready none fr.n fr.t ps.toList assign body H.next))) (rangeRes k fr H.next)
  | _ => none
def codeKK (E : Env) (cl : Cl α) (c : Code) : CK' α :=
  Code.rec (motive := fun _ => CK' α) (fun k fr H => k .normal fr H) (fun _ ops draw k => regT E cl ops draw k) (fun _ _ a b k => a (seqKK b k)) (fun c _ _ a b k fr H => ob (opdR E fr.t c) fun v => condV a b k fr H v) (fun id _ a k => a (blockKK id k)) (fun c a k => a (loopKK cl c k))
    (fun f ps assign body _ _ k fr H => bc fr.rd none (ob (opdR E fr.t f) fun v => rangeV E cl ps assign body k fr H v)) (fun id k fr H => k (.exit id) fr H) (fun _ _ _ _ _ => none) (fun _ k fr H => k .normal fr H) (fun _ _ _ _ => none) (fun k fr H => k .ret fr H) (fun _ _ _ _ => none) c
theorem codeKK_some {E : Env} {cl : Cl α} {ih : Task → Option TRes} (hc : ClOk cl ih) : ∀ (c : Code) (k : KC α) (fr : AFr) (H : AHeap) (r : α), codeKK E cl c k fr H = some r → ∃ e fr' H', codeA E ih c fr H = some (.code e fr' H') ∧ k e fr' H' = some r := by
  intro c
  induction c with
  | skip => intro k fr H r h; exact ⟨_, _, _, rfl, h⟩
  | region id ops draw => intro k fr H r h; exact regT_some hc h
  | seq a b iha ihb =>
    intro k fr H r h
    obtain ⟨e, fr1, H1, e1, e2⟩ := iha (seqKK (codeKK E cl b) k) fr H r h
    simp only [codeA, e1]
    cases e with
    | normal => exact ihb k fr1 H1 r e2
    | exit i => exact ⟨_, _, _, rfl, e2⟩
    | ret => exact ⟨_, _, _, rfl, e2⟩
    | panic v => exact ⟨_, _, _, rfl, e2⟩
  | cond c a b iha ihb =>
    intro k fr H r h
    have h' : (ob (opdR E fr.t c) fun v => condV (codeKK E cl a) (codeKK E cl b) k fr H v) = some r := h
    rw [opdR_eq] at h'
    obtain ⟨v, hv, h1⟩ := ob_some' h'
    simp only [codeA, hv]
    cases v <;> try (cases h1; done)
    rename_i t
    simp only [condV] at h1
    cases t with
    | true => exact iha k fr H r h1
    | false => exact ihb k fr H r h1
  | block id a iha =>
    intro k fr H r h
    obtain ⟨e, fr1, H1, e1, e2⟩ := iha (blockKK id k) fr H r h
    simp only [codeA, e1]
    cases e with
    | normal => exact ⟨_, _, _, rfl, e2⟩
    | ret => exact ⟨_, _, _, rfl, e2⟩
    | panic v => exact ⟨_, _, _, rfl, e2⟩
    | exit i =>
      have e2' : bc (Nat.beq i id) (k .normal fr1 H1) (k (.exit i) fr1 H1) = some r := e2
      simp only
      cases hb : Nat.beq i id with
      | true => rw [hb] at e2'; exact ⟨_, _, _, rfl, e2'⟩
      | false => rw [hb] at e2'; exact ⟨_, _, _, rfl, e2'⟩
  | loop a iha =>
    intro k fr H r h
    obtain ⟨e, fr1, H1, e1, e2⟩ := iha (loopKK cl a k) fr H r h
    simp only [codeA, e1]
    cases e with
    | normal =>
      obtain ⟨x, hx, e3⟩ := hc _ _ _ e2
      cases x with
      | code e' fr' H' => exact ⟨e', fr', H', hx, e3⟩
      | call => cases e3
      | dcall => cases e3
    | exit i => exact ⟨_, _, _, rfl, e2⟩
    | ret => exact ⟨_, _, _, rfl, e2⟩
    | panic v => exact ⟨_, _, _, rfl, e2⟩
  | rangeFunc f ps a b _ _ =>
    intro k fr H r h
    have h' : bc fr.rd none (ob (opdR E fr.t f) fun v => rangeV E cl ps a b k fr H v) = some r := h
    rcases bc_some h' with ⟨_, h'⟩ | ⟨hrd, h1⟩
    · cases h'
    rw [opdR_eq] at h1
    obtain ⟨v, hv, h1⟩ := ob_some' h1
    simp only [codeA, hrd, cond_false, hv]
    cases v <;> try (cases h1; done)
    rename_i g first cap
    obtain ⟨fn, hfn, h2⟩ := ob_some' h1
    obtain ⟨x, hx, h3⟩ := hc _ _ _ h2
    simp only [hfn, hx]
    cases x with
    | code => cases h3
    | dcall => cases h3
    | call y =>
      cases y with
      | pan => cases h3
      | ret v H' =>
        simp only [rangeRes] at h3
        dsimp only
        have hfr : ∀ l : List ADf, AFr.mk fr.n fr.t l fr.rd = { fr with df := l } := fun _ => rfl
        cases hg : H'.get (H.next + 1) with
        | none => rw [hg] at h3; cases h3
        | some o =>
          rw [hg] at h3
          cases o with
          | loop st pend n t p asz bo d =>
            cases st <;> first
              | (cases h3; done)
              | (cases pend with
                | none => exact ⟨_, _, _, rfl, by rw [hrd] at h3; exact h3⟩
                | some e =>
                  cases e with
                  | normal => cases h3
                  | exit i => exact ⟨_, _, _, rfl, by rw [hrd] at h3; exact h3⟩
                  | ret => exact ⟨_, _, _, rfl, by rw [hrd] at h3; exact h3⟩
                  | panic v => cases h3)
          | _ => cases h3
  | exit id => intro k fr H r h; exact ⟨_, _, _, rfl, h⟩
  | scope c _ => intro k fr H r h; cases h
  | label l => intro k fr H r h; exact ⟨_, _, _, rfl, h⟩
  | goto l => intro k fr H r h; cases h
  | ret => intro k fr H r h; exact ⟨_, _, _, rfl, h⟩
  | refuse w => intro k fr H r h; cases h
def resL (E : Env) (fr : Tr AV) (H : AHeap) (l : List ResultVar) : (List AV → Option α) → Option α :=
  List.rec (motive := fun _ => (List AV → Option α) → Option α) (fun k => k []) (fun x _ ih k => match x with
    | .tmp t => ob (fr.get t) fun v => ih fun l => k (v :: l)
    | .cell a t => ob (fr.get a) fun p => loadKK E H t (fun v => ih fun l => k (v :: l)) p) l
theorem resL_some {E : Env} {fr : Tr AV} {H : AHeap} : ∀ {l : List ResultVar} {k : List AV → Option α} {r : α}, resL E fr H l k = some r → ∃ vs, resA E fr H l = some vs ∧ k vs = some r := by
  intro l
  induction l with
  | nil => intro k r h; exact ⟨[], rfl, h⟩
  | cons x l ihl =>
    intro k r h
    cases x with
    | tmp t =>
      have h' : (ob (fr.get t) fun v => resL E fr H l fun l => k (v :: l)) = some r := h
      obtain ⟨v, hv, h1⟩ := ob_some' h'
      obtain ⟨vs, hvs, h2⟩ := ihl h1
      exact ⟨v :: vs, by simp [resA, hv, hvs], h2⟩
    | cell a t =>
      have h' : (ob (fr.get a) fun p => loadKK E H t (fun v => resL E fr H l fun l => k (v :: l)) p) = some r := h
      obtain ⟨p, hp, h1⟩ := ob_some' h'
      obtain ⟨v, hv, h2⟩ := loadKK_some h1
      obtain ⟨vs, hvs, h3⟩ := ihl h2
      exact ⟨v :: vs, by simp [resA, hp, hv, hvs], h3⟩
def dcallRes (k : Bool → AHeap → Option α) : TRes → Option α
  | .dcall (.back taken H) => k taken H
  | _ => none
def leaveT (E : Env) (cl : Cl α) (rs : List ResultVar) (t : Tr AV) (k : TRes → Option α) (ds : List ADf) : Option AV → AHeap → Option α :=
  List.rec (motive := fun _ => Option AV → AHeap → Option α)
    (fun p H => match p with
      | none => resL E t H rs fun l => k (.call (.ret (resV l) H))
      | some v => k (.call (.pan v H)))
    (fun d _ ih p H => match d with
      | .mark id => (match H.get id with
        | some .dfr => ih p (H.kill id)
        | _ => none)
      | .call f args => cl (.dcall f args p H) (dcallRes fun taken H => ih (bc taken none p) H)) ds
theorem leaveT_some {E : Env} {cl : Cl α} {ih : Task → Option TRes} (hc : ClOk cl ih) {rs : List ResultVar} {t : Tr AV} {k : TRes → Option α} : ∀ {ds : List ADf} {p : Option AV} {H : AHeap} {r : α}, leaveT E cl rs t k ds p H = some r →
    ∃ x, leaveA E ih rs t ds p H = some x ∧ k x = some r := by
  intro ds
  induction ds with
  | nil =>
    intro p H r h
    cases p with
    | none =>
      obtain ⟨vs, hvs, h1⟩ := resL_some h
      exact ⟨_, by simp only [leaveA, hvs], h1⟩
    | some v => exact ⟨_, rfl, h⟩
  | cons d ds ihd =>
    intro p H r h
    cases d with
    | mark id =>
      have h' : (match H.get id with
        | some .dfr => leaveT E cl rs t k ds p (H.kill id)
        | _ => none) = some r := h
      simp only [leaveA]
      split at h'
      · rename_i hg
        rw [hg]
        exact ihd h'
      · cases h'
    | call f args =>
      have h' : cl (.dcall f args p H) (dcallRes fun taken H => leaveT E cl rs t k ds (bc taken none p) H) = some r := h
      obtain ⟨x, hx, h1⟩ := hc _ _ _ h'
      cases x with
      | code => cases h1
      | call => cases h1
      | dcall y =>
        obtain ⟨taken, H'⟩ := y
        obtain ⟨z, hz, h2⟩ := ihd h1
        rw [bc_eq] at hz
        exact ⟨z, by simp only [leaveA, hx]; exact hz, h2⟩
def retT (E : Env) (cl : Cl α) (rs : List ResultVar) (k : TRes → Option α) : KC α := fun e fr H => AExit.rec (motive := fun _ => Option α) (leaveT E cl rs fr.t k fr.df none H) (fun _ => none) (leaveT E cl rs fr.t k fr.df none H) (fun v => leaveT E cl rs fr.t k fr.df (some v) H) e
def endV (E : Env) (rs : List ResultVar) (taken : Bool) (k : TRes → Option α) (fr : AFr) (H : AHeap) : Option α :=
  match fr.df with
  | [] => resL E fr.t H rs fun _ => k (.dcall (.back taken H))
  | _ => none
def endT (E : Env) (rs : List ResultVar) (taken : Bool) (k : TRes → Option α) : KC α := fun e fr H => AExit.rec (motive := fun _ => Option α) (endV E rs taken k fr H) (fun _ => none) (endV E rs taken k fr H) (fun _ => none) e
theorem endT_some {E : Env} {rs : List ResultVar} {taken : Bool} {k : TRes → Option α} {e : AExit} {fr : AFr} {H : AHeap} {r : α} (h : endT E rs taken k e fr H = some r) : ∃ x, endD E rs taken (some (.code e fr H)) = some x ∧ k x = some r := by
  have go : endV E rs taken k fr H = some r → (e = .normal ∨ e = .ret) → ∃ x, endD E rs taken (some (.code e fr H)) = some x ∧ k x = some r := fun h he => by
    unfold endV at h
    split at h
    case h_2 => cases h
    rename_i hd
    obtain ⟨vs, hvs, h1⟩ := resL_some h
    obtain ⟨n, t, df, rd⟩ := fr
    simp only at hd hvs
    subst hd
    rcases he with rfl | rfl
    · exact ⟨_, by simp only [endD, hvs], h1⟩
    · exact ⟨_, by simp only [endD, hvs], h1⟩
  cases e with
  | normal => exact go h (.inl rfl)
  | ret => exact go h (.inr rfl)
  | exit => cases h
  | panic => cases h
def yieldEnd (id : Nat) (k : TRes → Option α) : KC α := fun e _ H2 => match H2.get id with
  | some (.loop _ _ m2 u2 ps2 as2 bo2 d2) => AExit.rec (motive := fun _ => Option α) (k (.call (.ret (.bool true) (H2.put id (.loop .ready none m2 u2 ps2 as2 bo2 d2))))) (fun i => k (.call (.ret (.bool false) (H2.put id (.loop .done (some (.exit i)) m2 u2 ps2 as2 bo2 d2)))))
      (k (.call (.ret (.bool false) (H2.put id (.loop .done (some .ret) m2 u2 ps2 as2 bo2 d2))))) (fun _ => none) e
  | _ => none
def yieldMid (E : Env) (cl : Cl α) (id : Nat) (body : Code) (k : TRes → Option α) : KC α := fun e fr1 H1 => match e with
  | .normal => (match H1.get id with
    | some (.loop .ready pend1 m1 u1 ps1 as1 bo1 d1) => codeKK E cl body (yieldEnd id k) fr1 (H1.put id (.loop .busy pend1 m1 u1 ps1 as1 bo1 d1))
    | _ => none)
  | _ => none
def yieldT (E : Env) (cl : Cl α) (id : Nat) (args : List AV) (H : AHeap) (k : TRes → Option α) : Option α := match H.get id with
  | some (.loop .ready _ n t ps assign body _) => ob (setParams n ps args t) fun t' => codeKK E cl assign (yieldMid E cl id body k) ⟨n, t', [], true⟩ H
  | _ => none
theorem yieldT_some {E : Env} {cl : Cl α} {ih : Task → Option TRes} (hc : ClOk cl ih) {id : Nat} {args : List AV} {H : AHeap} {k : TRes → Option α} {r : α} (h : yieldT E cl id args H k = some r) : ∃ x, stepA E ih (.yield id args H) = some x ∧ k x = some r := by
  unfold yieldT at h
  simp only [stepA]
  split at h
  case h_2 => cases h
  rename_i pend n t ps assign body d hg
  obtain ⟨t', ht, h1⟩ := ob_some' h
  obtain ⟨e, fr1, H1, e1, h2⟩ := codeKK_some hc _ _ _ _ _ h1
  simp only [hg, ht, e1]
  cases e <;> try (cases h2; done)
  simp only [yieldMid] at h2
  dsimp only
  split at h2
  case h_2 => cases h2
  rename_i pend1 m1 u1 ps1 as1 bo1 d1 hg1
  obtain ⟨e2, fr2, H2, e3, h3⟩ := codeKK_some hc _ _ _ _ _ h2
  simp only [hg1, e3]
  unfold yieldEnd at h3
  split at h3
  case h_2 => cases h3
  rename_i st2 pend2 m2 u2 ps2 as2 bo2 d2 hg2
  simp only [hg2]
  cases e2 with
  | normal => exact ⟨_, rfl, h3⟩
  | exit i => exact ⟨_, rfl, h3⟩
  | ret => exact ⟨_, rfl, h3⟩
  | panic v => cases h3
abbrev Smk (α : Type) := FuncId → List AV → AHeap → (AV → AHeap → Option α) → Option α
def SmkOk (E : Env) (s : Smk α) : Prop := ∀ f args H k r, s f args H k = some r → ∃ v H', E.sm f args H = some (v, H') ∧ k v H' = some r
def smC (E : Env) : Smk α := fun f args H k => ob (E.sm f args H) fun x => k x.1 x.2
theorem smC_ok (E : Env) : SmkOk (α := α) E (smC E) := fun f args H k r h => by
  obtain ⟨x, hx, h1⟩ := ob_some' h
  exact ⟨x.1, x.2, hx, h1⟩
def dcallV (E : Env) (cl : Cl α) (f : FuncId) (args : List AV) (pan : Option AV) (H : AHeap) (k : TRes → Option α) : Option α := ob (E.fn f) fun fn => match recFirst fn.body with
  | some (o, rest) => codeKK E cl rest (endT E fn.results pan.isSome k) ((newFr fn args).put o.dst (recOf pan)) H
  | none => codeKK E cl fn.body (endT E fn.results false k) (newFr fn args) H
def callC (E : Env) (s : Smk α) (cl : Cl α) (f : FuncId) (args : List AV) (H : AHeap) (k : TRes → Option α) : Option α :=
  Option.rec (motive := fun _ => Option α) (s f args H fun v H => k (.call (.ret v H))) (fun fn => codeKK E cl fn.body (retT E cl fn.results k) (newFr fn args) H) (E.fn f)
def stepT (E : Env) (s : Smk α) (cl : Cl α) : Cl α := fun t k => match t with
  | .code c fr H => codeKK E cl c (fun e fr H => k (.code e fr H)) fr H
  | .call f args H => callC E s cl f args H k
  | .dcall f args pan H => dcallV E cl f args pan H k
  | .yield id args H => yieldT E cl id args H k
theorem stepT_some {E : Env} {s : Smk α} (hs : SmkOk E s) {cl : Cl α} {ih : Task → Option TRes} (hc : ClOk cl ih) : ClOk (stepT E s cl) (stepA E ih) := by
  intro t k r h
  cases t with
  | code c fr H =>
    obtain ⟨e, fr', H', e1, e2⟩ := codeKK_some hc _ _ _ _ _ h
    exact ⟨_, e1, e2⟩
  | yield id args H => exact yieldT_some hc h
  | call f args H =>
    have h' : Option.rec (motive := fun _ => Option α) (s f args H fun v H => k (.call (.ret v H))) (fun fn => codeKK E cl fn.body (retT E cl fn.results k) (newFr fn args) H) (E.fn f) = some r := h
    simp only [stepA]
    cases hf : E.fn f with
    | none =>
      rw [hf] at h'
      obtain ⟨v, H', hx, h1⟩ := hs _ _ _ _ _ h'
      exact ⟨_, by simp only [hx], h1⟩
    | some fn =>
      rw [hf] at h'
      have h2 : codeKK E cl fn.body (retT E cl fn.results k) (newFr fn args) H = some r := h'
      obtain ⟨e, fr', H', e1, e2⟩ := codeKK_some hc _ _ _ _ _ h2
      simp only [e1]
      cases e with
      | normal => exact leaveT_some hc e2
      | ret => exact leaveT_some hc e2
      | panic v => exact leaveT_some hc e2
      | exit i => cases e2
  | dcall f args pan H =>
    obtain ⟨fn, hf, h1⟩ := ob_some' h
    simp only [stepA, hf]
    split at h1
    · rename_i o rest hr
      obtain ⟨e, fr', H', e1, e2⟩ := codeKK_some hc _ _ _ _ _ h1
      simp only [hr, e1]
      exact endT_some e2
    · rename_i hr
      obtain ⟨e, fr', H', e1, e2⟩ := codeKK_some hc _ _ _ _ _ h1
      simp only [hr, e1]
      exact endT_some e2
def taskKK (E : Env) (s : Smk α) (n : Nat) : Cl α := Nat.rec (motive := fun _ => Cl α) (fun _ _ => none) (fun _ cl => stepT E s cl) n
theorem taskKK_ok (E : Env) {s : Smk α} (hs : SmkOk E s) : ∀ n, ClOk (taskKK E s n) (run E n)
  | 0 => fun t k r h => by cases h
  | n + 1 => stepT_some hs (taskKK_ok E hs n)
def callKK (E : Env) (n : Nat) : Cl α := taskKK E (smC E) n
theorem callKK_ok (E : Env) (n : Nat) : ClOk (callKK (α := α) E n) (run E n) := taskKK_ok E (smC_ok E) n
end
end
end Go.Vai
end
section
namespace Go.Vai
noncomputable section
variable {α : Type}
abbrev Orc := List Bool
abbrev PC (α : Type) := AExit → AFr → AHeap → Orc → Option α
abbrev PCl (α : Type) := Task → Orc → (TRes → Orc → Option α) → Option α
def POk (cl : PCl α) (ih : Task → Option TRes) : Prop := ∀ t o k r, cl t o k = some r → ∃ x o', ih t = some x ∧ k x o' = some r
def brN (x : Bool) (t f : Orc → Option α) (o : Orc) : Option α :=
  List.rec (motive := fun _ => Option α) (bc x (t []) (f [])) (fun y o' _ => bc y (bc x (t o') none) (bc x none (f o'))) o
theorem brN_some {x : Bool} {t f : Orc → Option α} {o : Orc} {r : α} (h : brN x t f o = some r) : ∃ o', (x = true ∧ t o' = some r) ∨ (x = false ∧ f o' = some r) := by
  cases o with
  | nil => exact ⟨[], bc_some h⟩
  | cons y o' =>
    have h' : bc y (bc x (t o') none) (bc x none (f o')) = some r := h
    refine ⟨o', ?_⟩
    cases y with
    | true =>
      rw [bc_true] at h'
      exact .inl (bc_none h')
    | false =>
      rw [bc_false] at h'
      rcases bc_some h' with ⟨_, h1⟩ | h1
      · cases h1
      · exact .inr h1
def wantNV (fr : AFr) (d : Nat) (want : Bool) (kt kf : AFr → Orc → Option α) (o : Orc) : AV → Option α
  | .bool b => bc (Nat.blt d 1000001) (brN b (fun o => bc want (kt (fixB fr d true) o) (kf (fixB fr d true) o)) (fun o => bc want (kf (fixB fr d false) o) (kt (fixB fr d false) o)) o) none
  | .tup _ => kf fr o
  | _ => none
def wantN (all : Array Oper) (fr : AFr) (kt kf : AFr → Orc → Option α) (o : Orc) : Option (Nat × Bool) → Option α
  | none => kt fr o
  | some (j, want) => match (all[j]?).bind (·.dst) with
    | none => kf fr o
    | some d => ob (fr.t.get d) fun v => wantNV fr d want kt kf o v
theorem wantN_some {all : Array Oper} {fr : AFr} {kt kf : AFr → Orc → Option α} {op : Oper} {o : Orc} {r : α} (h : wantN all fr kt kf o op.guard = some r) : ∃ o', (wantedA all fr.t op = some true ∧ kt fr o' = some r) ∨ (wantedA all fr.t op = some false ∧ kf fr o' = some r) := by
  unfold wantedA
  cases hg : op.guard with
  | none => rw [hg] at h; exact ⟨o, .inl ⟨rfl, h⟩⟩
  | some g =>
    obtain ⟨j, want⟩ := g
    rw [hg] at h
    simp only [wantN] at h ⊢
    cases hd : (all[j]?).bind (·.dst) with
    | none => rw [hd] at h; exact ⟨o, .inr ⟨rfl, h⟩⟩
    | some d =>
      rw [hd] at h
      simp only at h ⊢
      obtain ⟨v, hv, h⟩ := ob_some' h
      rw [hv]
      cases v <;> try (cases h; done)
      case bool b =>
        simp only [wantNV] at h
        obtain ⟨hlt, h⟩ := bc_none h
        rw [Nat.blt_eq] at hlt
        have e := fixB_eq hlt hv
        obtain ⟨o', h5⟩ := brN_some h
        clear h
        refine ⟨o', ?_⟩
        rcases h5 with ⟨hb, h5⟩ | ⟨hb, h5⟩
        · subst hb
          rw [e] at h5
          cases want with
          | true => exact .inl ⟨rfl, h5⟩
          | false => exact .inr ⟨rfl, h5⟩
        · subst hb
          rw [e] at h5
          cases want with
          | true => exact .inr ⟨rfl, h5⟩
          | false => exact .inl ⟨rfl, h5⟩
      case tup l => exact ⟨o, .inr ⟨rfl, h⟩⟩
def callResP (k kp : AV → AHeap → Orc → Option α) : TRes → Orc → Option α
  | .call (.ret v H), o => k v H o
  | .call (.pan v H), o => kp v H o
  | _, _ => none
def yieldResP (k : AV → AHeap → Orc → Option α) : TRes → Orc → Option α
  | .call (.ret v H), o => k v H o
  | _, _ => none
def resP (cl : PCl α) (H : AHeap) (k kp : AV → AHeap → Orc → Option α) (kd : FuncId → List AV → Orc → Option α) (o : Orc) : ARes → Option α
  | .val v H => k v H o
  | .skip H => k undefA H o
  | .panic v H => kp v H o
  | .call f args => cl (.call f args H) o (callResP k kp)
  | .ycall id args => cl (.yield id args H) o (yieldResP k)
  | .defer f args => kd f args o
theorem resP_some {cl : PCl α} {ih : Task → Option TRes} (hc : POk cl ih) {H : AHeap} {k kp : AV → AHeap → Orc → Option α} {kd : FuncId → List AV → Orc → Option α} {o : Orc} {x : ARes} {r : α} (h : resP cl H k kp kd o x = some r) :
    ∃ o', (∃ v H', (callsA ih H x = some (.val v H') ∨ (callsA ih H x = some (.skip H') ∧ v = undefA)) ∧ k v H' o' = some r) ∨ (∃ v H', callsA ih H x = some (.panic v H') ∧ kp v H' o' = some r) ∨ (∃ f args, callsA ih H x = some (.defer f args) ∧ kd f args o' = some r) := by
  cases x with
  | val v H1 => exact ⟨o, .inl ⟨v, H1, .inl rfl, h⟩⟩
  | skip H1 => exact ⟨o, .inl ⟨undefA, H1, .inr ⟨rfl, rfl⟩, h⟩⟩
  | panic v H1 => exact ⟨o, .inr (.inl ⟨v, H1, rfl, h⟩)⟩
  | defer f args => exact ⟨o, .inr (.inr ⟨f, args, rfl, h⟩)⟩
  | call f args =>
    obtain ⟨y, o', hy, h1⟩ := hc _ _ _ _ h
    cases y with
    | call c =>
      cases c with
      | ret v H1 => exact ⟨o', .inl ⟨v, H1, .inl (by simp [callsA, hy]), h1⟩⟩
      | pan v H1 => exact ⟨o', .inr (.inl ⟨v, H1, by simp [callsA, hy], h1⟩)⟩
    | code => cases h1
    | dcall => cases h1
  | ycall id args =>
    obtain ⟨y, o', hy, h1⟩ := hc _ _ _ _ h
    cases y with
    | call c =>
      cases c with
      | ret v H1 => exact ⟨o', .inl ⟨v, H1, .inl (by simp [callsA, hy]), h1⟩⟩
      | pan v H1 => cases h1
    | code => cases h1
    | dcall => cases h1
def deferP (k : AFr → AHeap → Orc → Option α) (op : Oper) (fr : AFr) (H : AHeap) (f : FuncId) (args : List AV) (o : Orc) : Option α := bc fr.rd none (k (putR ⟨fr.n, fr.t, .call f args :: fr.df, fr.rd⟩ op.dst undefA) H o)
abbrev Pin := Oper → Option Int
def noPin : Pin := fun _ => none
def pinV (n : Int) (k : ARes → Option α) : ARes → Option α
  | .val (.int kd x) H => bc (ieq x n) (k (.val (.int kd n) H)) none
  | _ => none
def pinL (n : Nat) (k : ARes → Option α) : ARes → Option α
  | .val (.sl id off len cap) H => bc (Nat.beq id n) (bc (Nat.beq off 0) (k (.val (.sl n 0 len cap) H)) none) none
  | _ => none
def pinX (pn : Pin) (op : Oper) (x : ARes) (k : ARes → Option α) : Option α := Option.rec (motive := fun _ => Option α) (k x) (fun n => pinV n k x) (pn op)
def pinM (z : Int) (k : ARes → Option α) (x : ARes) : Option α := match z with
  | .negSucc m => pinV (.ofNat m) k x
  | .ofNat _ => k x
def pinK (pn : Pin) (op : Oper) (x : ARes) (k : ARes → Option α) : Option α := match op.op with
  | .binOp .rem _ _ _ _ => pinX pn op x k
  | .load _ _ => Option.rec (motive := fun _ => Option α) (k x) (fun n => pinL n.toNat k x) (pn op)
  | .assign _ => Option.rec (motive := fun _ => Option α) (k x) (fun n => pinM n k x) (pn op)
  | _ => k x
theorem pinV_some {n : Int} {x : ARes} {k : ARes → Option α} {r : α} (h2 : pinV n k x = some r) : k x = some r := by
  unfold pinV at h2
  split at h2
  case h_2 => cases h2
  rename_i kd y H
  obtain ⟨h3, h4⟩ := bc_none h2
  have e : y = n := by
    cases y <;> cases n <;> simp_all [ieq]
  rw [e]; exact h4
theorem pinK_some {pn : Pin} {op : Oper} {x : ARes} {k : ARes → Option α} {r : α} (h : pinK pn op x k = some r) : k x = some r := by
  unfold pinK at h
  split at h
  case h_4 => exact h
  case h_3 =>
    cases hp : pn op with
    | none => rw [hp] at h; exact h
    | some n =>
      rw [hp] at h
      have h2 : pinM n k x = some r := h
      cases n with
      | ofNat m => exact h2
      | negSucc m => exact pinV_some h2
  case h_2 =>
    cases hp : pn op with
    | none => rw [hp] at h; exact h
    | some n =>
      rw [hp] at h
      have h2 : pinL n.toNat k x = some r := h
      unfold pinL at h2
      split at h2
      case h_2 => cases h2
      obtain ⟨h3, h5⟩ := bc_none h2
      obtain ⟨h4, h6⟩ := bc_none h5
      rw [Nat.beq_eq] at h3 h4
      rw [h3, h4]
      exact h6
  unfold pinX at h
  cases hp : pn op with
  | none => rw [hp] at h; exact h
  | some n =>
    rw [hp] at h
    have h2 : pinV n k x = some r := h
    unfold pinV at h2
    split at h2
    case h_2 => cases h2
    rename_i kd y H
    obtain ⟨h3, h4⟩ := bc_none h2
    have e : y = n := by
      cases y <;> cases n <;> simp_all [ieq]
    rw [e]; exact h4
def trimQ (E : Env) (H : AHeap) (t : TypeId) (s : AV) (x : Option α) : Option α :=
  match s with
  | .sl id 0 len none => match E.ty t with
    | some ti => match ti.d with
      | .slice e => match E.ty e, H.get id with
        | some ei, some (.cells n _ _ _ _ false _) => bc (Nat.blt (Nat.mul len ei.size) n) none x
        | _, _ => x
      | _ => x
    | none => x
  | _ => x
theorem trimQ_some {E : Env} {H : AHeap} {t : TypeId} {s : AV} {k : AHeap → Option α} {r : α} (h : trimQ E H t s (k H) = some r) : trimK E H t s k = some r := by
  unfold trimQ at h
  split at h
  · rename_i id len
    cases ht : E.ty t with
    | none => rw [ht] at h; simp only [trimK, ht]; exact h
    | some ti =>
      rw [ht] at h
      dsimp only at h
      cases hd : ti.d <;> rw [hd] at h <;> try (simp only [trimK, ht, hd]; exact h)
      rename_i e
      dsimp only at h
      simp only [trimK, ht, hd]
      cases he : E.ty e with
      | none => rw [he] at h; exact h
      | some ei =>
        cases hg : H.get id with
        | none => rw [he, hg] at h; exact h
        | some p =>
          rw [he, hg] at h
          cases p with
          | cells n c e' g fz ro mk =>
            cases ro with
            | true => exact h
            | false =>
              rcases bc_some (b := Nat.blt (Nat.mul len ei.size) n) h with ⟨_, h1⟩ | ⟨h1, h2⟩
              · cases h1
              · show bc _ _ _ = _
                rw [h1]; exact h2
          | _ => exact h
  · rename_i hno
    unfold trimK
    split
    · exact absurd rfl (hno _ _)
    · exact h
def appQ (z : Int) (H : AHeap) (e es eb m : Nat) (news : List AV) (k : AV → AHeap → Option α) : AV → Option α
  | .nils => bc (Nat.beq m 0) none (bc (roomy m eb) (k (.sl H.next 0 m none) (H.new (.cells (Nat.mul m es) (Tr.nil.putAll 0 news) e (some es) 0 false false))) none)
  | .sl id off len (some c) => bc (Nat.ble (Nat.add len m) c) none
      (bc (roomy (Nat.add len m) eb) (cellsK H es len (fun olds => k (.sl H.next 0 (Nat.add len m) none) (H.new (.cells (Nat.mul (Nat.add len m) es) (Tr.nil.putAll 0 (olds ++ news)) e (some es) 0 false false))) (.sl id off len (some c))) none)
  | .sl id off len none => bc (ieq z (.ofNat 2)) (bc (Nat.beq m 0) (k (.sl id off len none) H) none) (bc (Nat.beq m 0) none (growK k H id off len e m es eb news (H.get id)))
  | _ => none
theorem bc_no' {b : Bool} {x : Option α} {r : α} (h : bc b none x = some r) : b = false ∧ x = some r := by
  rcases bc_some h with ⟨_, h⟩ | h
  · cases h
  · exact h
theorem appQ_some {z : Int} {H : AHeap} {e es eb m : Nat} {news : List AV} {k : AV → AHeap → Option α} {s : AV} {r : α} (h : appQ z H e es eb m news k s = some r) : appK H e es eb m news k s = some r := by
  cases s <;> try (cases h; done)
  case nils =>
    obtain ⟨h1, h2⟩ := bc_no' h
    simp only [appK]
    rw [h1, bc_false]; exact h2
  case sl id off len cap =>
    cases cap with
    | some c =>
      obtain ⟨h1, h2⟩ := bc_no' h
      simp only [appK]
      rw [h1, bc_false]; exact h2
    | none =>
      simp only [appK]
      rcases bc_some (b := ieq z (.ofNat 2)) h with ⟨_, h1⟩ | ⟨_, h1⟩
      · obtain ⟨h2, h3⟩ := bc_none h1
        rw [h2, bc_true]; exact h3
      · obtain ⟨h2, h3⟩ := bc_no' h1
        rw [h2, bc_false]; exact h3
def kAppendQ (z : Int) (ts : List TypeId) (args : List Operand) : KF α := fun E H fr k => match ts with
  | t :: u :: _ => ob (opdsR E fr args) fun l => match l with
    | [s, x] => ob (E.ty t) fun ti => match ti.d with
      | .slice e => ob (E.ty e) fun ei => bc (srcTy E u && !(Nat.beq ei.size 0)) (trimQ E H t s (lenK (fun m => cellsK H ei.size m (fun news => appQ z H e ei.size ei.bytes m news (fun v H => k (.val v H)) s) x) x)) none
      | _ => none
    | _ => none
  | _ => none
def kAppend3 (ts : List TypeId) (args : List Operand) : KF α := fun E H fr k => match ts with
  | t :: u :: _ => ob (opdsR E fr args) fun l => match l with
    | [s, x] => ob (E.ty t) fun ti => match ti.d with
      | .slice e => ob (E.ty e) fun ei => bc (srcTy E u && !(Nat.beq ei.size 0)) (trimQ E H t s (lenK (fun m => cellsK H ei.size m (fun news => appK H e ei.size ei.bytes m news (fun v H => k (.val v H)) s) x) x))
          (bc (intTy E u && !(Nat.beq ei.size 0)) (match x with | .int _ n => trimQ E H t s (bc ((!(ilt n 0)) && roomy n.toNat (ei.bytes + ei.size)) (appK H e ei.size ei.bytes n.toNat (rep ei.zero n.toNat) (fun v H => k (.val v H)) s) none) | _ => none) none)
      | _ => none
    | _ => none
  | _ => none
theorem trimQ_val {E : Env} {H : AHeap} {t : TypeId} {s : AV} {x : Option α} {r : α} (h : trimQ E H t s x = some r) : x = some r := by
  unfold trimQ at h
  split at h
  · split at h
    · split at h
      · split at h
        · exact (bc_no' h).2
        · exact h
      · exact h
    · exact h
  · exact h
theorem kAppend3_some {ts : List TypeId} {args : List Operand} {E : Env} {H : AHeap} {fr : Tr AV} {k : ARes → Option α} {r : α} (h : kAppend3 ts args E H fr k = some r) : kAppend ts args E H fr k = some r := by
  unfold kAppend3 at h
  unfold kAppend
  split at h
  case h_2 => cases h
  obtain ⟨l, hl, h⟩ := ob_some' h
  simp only [hl, ob]
  rcases l with _ | ⟨s, _ | ⟨x, _ | ⟨y, l⟩⟩⟩ <;> try (cases h; done)
  obtain ⟨ti, ht, h⟩ := ob_some' h
  simp only [ht]
  cases hd : ti.d <;> rw [hd] at h <;> try (cases h; done)
  dsimp only at h ⊢
  obtain ⟨ei, he, h⟩ := ob_some' h
  simp only [he]
  rcases bc_some h with ⟨h1, h⟩ | ⟨h1, h⟩
  · rw [h1, bc_true]
    exact trimQ_some (k := fun H => _) h
  · rw [h1, bc_false]
    obtain ⟨h2, h⟩ := bc_none h
    rw [h2, bc_true]
    cases x <;> try (cases h; done)
    obtain ⟨h3, _⟩ := bc_none (trimQ_val h)
    dsimp only at h ⊢
    rw [h3, bc_true] at h ⊢
    exact trimQ_some (k := fun H => _) h
theorem lenK_mono {f g : Nat → Option α} (hfg : ∀ n r, f n = some r → g n = some r) {x : AV} {r : α} (h : lenK f x = some r) : lenK g x = some r := by
  cases x <;> first | (cases h; done) | exact hfg _ _ h
theorem cellsK_mono {H : AHeap} {es n : Nat} {f g : List AV → Option α} (hfg : ∀ l r, f l = some r → g l = some r) {x : AV} {r : α} (h : cellsK H es n f x = some r) : cellsK H es n g x = some r := by
  cases x <;> try (cases h; done)
  case nils => exact hfg _ _ h
  case sl0 =>
    obtain ⟨h1, h2⟩ := bc_none h
    show bc _ _ _ = _
    rw [h1, bc_true]; exact hfg _ _ h2
  case sl id off len cap =>
    simp only [cellsK, rowK] at h ⊢
    split at h
    case h_2 => cases h
    obtain ⟨h1, h2⟩ := bc_none h
    rw [h1, bc_true]; exact hfg _ _ h2
  case str s =>
    obtain ⟨h1, h2⟩ := bc_none h
    show bc _ _ _ = _
    rw [h1, bc_true]; exact hfg _ _ h2
theorem kAppendQ_some {z : Int} {ts : List TypeId} {args : List Operand} {E : Env} {H : AHeap} {fr : Tr AV} {k : ARes → Option α} {r : α} (h : kAppendQ z ts args E H fr k = some r) : kAppend ts args E H fr k = some r := by
  unfold kAppendQ at h
  unfold kAppend
  split at h
  case h_2 => cases h
  obtain ⟨l, hl, h⟩ := ob_some' h
  simp only [hl, ob]
  rcases l with _ | ⟨s, _ | ⟨x, _ | ⟨y, l⟩⟩⟩ <;> try (cases h; done)
  obtain ⟨ti, ht, h⟩ := ob_some' h
  simp only [ht]
  cases hd : ti.d <;> rw [hd] at h <;> try (cases h; done)
  dsimp only at h ⊢
  obtain ⟨ei, he, h⟩ := ob_some' h
  simp only [he]
  obtain ⟨h1, h⟩ := bc_none h
  rw [h1, bc_true]
  have key : ∀ {t : TypeId} {s : AV} {x y : Option α}, (∀ r, x = some r → y = some r) → trimQ E H t s x = some r → trimQ E H t s y = some r := by
    intro t s x y hxy h
    unfold trimQ at h ⊢
    split at h
    · split at h
      · split at h
        · split at h
          · obtain ⟨h1, h2⟩ := bc_no' h
            rw [h1, bc_false]; exact hxy _ h2
          · exact hxy _ h
        · exact hxy _ h
      · exact hxy _ h
    · exact hxy _ h
  refine trimQ_some (k := fun H => _) (key (fun r h => ?_) h)
  exact lenK_mono (fun m r h => cellsK_mono (fun news r h => appQ_some h) h) h
def kOpQ (pn : Pin) (o : Oper) : KF α := fun E H fr k => match pn o with
  | some z => (match o.op with
    | .call c => bc (isApp c.callee) (bc (ieq z (.ofNat 3)) (kAppend3 c.argTypes.toList c.args.toList E H fr k) (kAppendQ z c.argTypes.toList c.args.toList E H fr k)) (kOp o E H fr k)
    | _ => kOp o E H fr k)
  | none => kOp o E H fr k
theorem kOpQ_some {pn : Pin} {o : Oper} {E : Env} {H : AHeap} {fr : Tr AV} {k : ARes → Option α} {r : α} (h : kOpQ pn o E H fr k = some r) : kOp o E H fr k = some r := by
  unfold kOpQ at h
  split at h
  · split at h
    · rename_i c hc
      rcases bc_some h with ⟨h1, h2⟩ | ⟨_, h2⟩
      · unfold kOp
        rw [hc]
        show kCall c o E H fr k = some r
        unfold kCall
        rw [h1, bc_true]
        rcases bc_some h2 with ⟨_, h3⟩ | ⟨_, h3⟩
        · exact kAppend3_some h3
        · exact kAppendQ_some h3
      · exact h2
    · exact h
  · exact h
def opP (E : Env) (pn : Pin) (cl : PCl α) (all : Array Oper) (op : Oper) (kp : AV → AFr → AHeap → Orc → Option α) (k : AFr → AHeap → Orc → Option α) : AFr → AHeap → Orc → Option α := fun fr H o =>
  wantN all fr (fun fr o => kOpQ pn op E H fr.t fun x => pinK pn op x fun x => resP cl H (fun v H o => k (putR fr op.dst v) H o) (fun v H o => kp v fr H o) (deferP k op fr H) o x) (fun fr o => k (putR fr op.dst undefA) H o) o op.guard
def opsP (E : Env) (pn : Pin) (cl : PCl α) (all : Array Oper) (k : PC α) (l : List Oper) : AFr → AHeap → Orc → Option α :=
  List.rec (motive := fun _ => AFr → AHeap → Orc → Option α) (k .normal) (fun op _ ih => opP E pn cl all op (fun v fr H o => k (.panic v) fr H o) ih) l
theorem opsP_some {E : Env} {pn : Pin} {cl : PCl α} {ih : Task → Option TRes} (hc : POk cl ih) {all : Array Oper} {k : PC α} : ∀ {l : List Oper} {fr : AFr} {H : AHeap} {o : Orc} {r : α}, opsP E pn cl all k l fr H o = some r →
    ∃ e fr' H' o', opsA E ih all l fr H = some (.code e fr' H') ∧ k e fr' H' o' = some r := by
  intro l
  induction l with
  | nil => intro fr H o r h; exact ⟨.normal, fr, H, o, rfl, h⟩
  | cons op l ihl =>
    intro fr H o r h
    have h' : opP E pn cl all op (fun v fr H o => k (.panic v) fr H o) (opsP E pn cl all k l) fr H o = some r := h
    simp only [opsA]
    obtain ⟨o1, hw⟩ := wantN_some h'
    rcases hw with ⟨hw, h1⟩ | ⟨hw, h1⟩
    · obtain ⟨x, hx, h2⟩ := kOp_some (kOpQ_some h1)
      replace h2 := pinK_some h2
      simp only [hw, hx]
      obtain ⟨o2, h2⟩ := resP_some hc h2
      rcases h2 with ⟨y, H1, hy, h3⟩ | ⟨y, H1, hy, h3⟩ | ⟨f, args, hy, h3⟩
      · rw [putR_eq] at h3
        obtain ⟨e, fr', H', o', e1, e2⟩ := ihl h3
        refine ⟨e, fr', H', o', ?_, e2⟩
        rcases hy with hy | ⟨hy, rfl⟩
        · simp only [hy]; exact e1
        · simp only [hy]; exact e1
      · exact ⟨_, _, _, o2, by simp only [hy], h3⟩
      · unfold deferP at h3
        rcases bc_some h3 with ⟨_, h4⟩ | ⟨hrd, h4⟩
        · cases h4
        · rw [putR_eq] at h4
          obtain ⟨e, fr', H', o', e1, e2⟩ := ihl h4
          exact ⟨e, fr', H', o', by simp only [hy, hrd, cond_false]; rw [hrd] at e1; exact e1, e2⟩
    · rw [putR_eq] at h1
      obtain ⟨e, fr', H', o', e1, e2⟩ := ihl h1
      exact ⟨e, fr', H', o', by simp only [hw]; exact e1, e2⟩
abbrev DP (α : Type) := Nat → List QRec → List ERec → AFr → AHeap → Orc → Option α
def dResP (E : Env) (cl : PCl α) (an : Tr Nat) (all : Array Oper) (fr0 : AFr) (op : Oper) (rest : List Oper) (i m : Nat) (qs : List QRec) (es : List ERec) (fr : AFr) (H : AHeap) (q : Bool) (kc : PC α) (k : DP α) (o : Orc) (x : ARes) : Option α :=
  bc q (match x with
      | .val v H' => allE E op fr.t v m (k (i + 1) (⟨i, op, fr.t, v⟩ :: qs) es (putR fr op.dst v) H' o) es
      | _ => none)
    (resP cl H (fun v H' o => allQ E H' m (k (i + 1) qs (⟨i, H⟩ :: es) (putR fr op.dst v) H' o) qs) (fun v H' o => bc (restOk an i rest (i + 1)) (kc (.panic v) ⟨fr0.n, delDsts fr0.t all.toList, fr0.df, fr0.rd⟩ H' o) none) (fun _ _ _ => none) o x)
def dOpP (E : Env) (pn : Pin) (cl : PCl α) (an : Tr Nat) (all : Array Oper) (fr0 : AFr) (kc : PC α) (op : Oper) (rest : List Oper) (k : DP α) : DP α := fun i qs es fr H o =>
  wantN all fr (fun fr o => ob (an.get i) fun m => kOpQ pn op E H fr.t fun x => dResP E cl an all fr0 op rest i m qs es fr H (quietOp E op.op) kc k o x) (fun fr o => k (i + 1) qs es (putR fr op.dst undefA) H o) o op.guard
def opsDP (E : Env) (pn : Pin) (cl : PCl α) (an : Tr Nat) (all : Array Oper) (fr0 : AFr) (kc : PC α) (l : List Oper) : DP α :=
  List.rec (motive := fun _ => DP α) (fun _ _ _ fr H o => kc .normal fr H o) (fun op rest k => dOpP E pn cl an all fr0 kc op rest k) l
theorem opsDP_some {E : Env} {pn : Pin} {cl : PCl α} {ih : Task → Option TRes} (hc : POk cl ih) {an : Tr Nat} {all : Array Oper} {fr0 : AFr} {kc : PC α} : ∀ {l : List Oper} {i : Nat} {qs : List QRec} {es : List ERec} {fr : AFr} {H : AHeap} {o : Orc} {r : α},
    opsDP E pn cl an all fr0 kc l i qs es fr H o = some r → ∃ e fr' H' o', opsD E ih all an fr0 l i qs es fr H = some (.code e fr' H') ∧ kc e fr' H' o' = some r := by
  intro l
  induction l with
  | nil => intro i qs es fr H o r h; exact ⟨.normal, fr, H, o, rfl, h⟩
  | cons op l ihl =>
    intro i qs es fr H o r h
    have h' : dOpP E pn cl an all fr0 kc op l (opsDP E pn cl an all fr0 kc l) i qs es fr H o = some r := h
    simp only [opsD]
    obtain ⟨o1, hw⟩ := wantN_some h'
    rcases hw with ⟨hw, h1⟩ | ⟨hw, h1⟩
    · obtain ⟨m, hm, h2⟩ := ob_some' h1
      obtain ⟨x, hx, h3⟩ := kOp_some (kOpQ_some h2)
      unfold dResP at h3
      cases hq : quietOp E op.op with
      | true =>
        rw [hq, bc_true] at h3
        cases x <;> try (cases h3; done)
        rename_i v H1
        obtain ⟨ha, h4⟩ := allE_some i h3
        rw [putR_eq] at h4
        have hH := quiet_same hq hx
        obtain ⟨e, fr', H', o', e1, e2⟩ := ihl (qs := ⟨i, op, fr.t, v⟩ :: qs) (es := es) h4
        refine ⟨e, fr', H', o', ?_, e2⟩
        simp only [hw, hm, hx, cond_true, ha]
        rw [hH] at e1
        exact e1
      | false =>
        rw [hq, bc_false] at h3
        obtain ⟨o2, h3⟩ := resP_some hc h3
        rcases h3 with ⟨y, H1, hy, h5⟩ | ⟨y, H1, hy, h5⟩ | ⟨f, args, hy, h5⟩
        · obtain ⟨ha, h6⟩ := allQ_some h5
          rw [putR_eq] at h6
          obtain ⟨e, fr', H', o', e1, e2⟩ := ihl (qs := qs) (es := ⟨i, H⟩ :: es) h6
          refine ⟨e, fr', H', o', ?_, e2⟩
          simp only [hw, hm, hx, cond_false]
          rcases hy with hy | ⟨hy, rfl⟩
          · simp only [hy, ha, cond_true]; exact e1
          · simp only [hy, ha, cond_true]; exact e1
        · obtain ⟨h6, h7⟩ := bc_none h5
          exact ⟨_, _, _, o2, by simp only [hw, hm, hx, cond_false, hy, h6, cond_true], h7⟩
        · cases h5
    · rw [putR_eq] at h1
      obtain ⟨e, fr', H', o', e1, e2⟩ := ihl h1
      exact ⟨e, fr', H', o', by simp only [hw]; exact e1, e2⟩
def regP (E : Env) (pn : Pin) (cl : PCl α) (ops : Array Oper) (draw : Bool) (k : PC α) : AFr → AHeap → Orc → Option α := fun fr H o =>
  bc draw (ob (ancs ops.toList 0 .nil) fun an => bc (allOk E an ops.toList && (Nat.ble fr.n 1000000 && Nat.ble ops.size 1000000)) (opsDP E pn cl an ops fr k ops.toList 0 [] [] fr H o) none) (opsP E pn cl ops k ops.toList fr H o)
theorem regP_some {E : Env} {pn : Pin} {cl : PCl α} {ih : Task → Option TRes} (hc : POk cl ih) {ops : Array Oper} {draw : Bool} {k : PC α} {fr : AFr} {H : AHeap} {o : Orc} {r : α} (h : regP E pn cl ops draw k fr H o = some r) :
    ∃ e fr' H' o', regionA E ih ops draw fr H = some (.code e fr' H') ∧ k e fr' H' o' = some r := by
  unfold regP at h
  unfold regionA
  cases draw with
  | false => rw [bc_false] at h; exact opsP_some hc h
  | true =>
    rw [bc_true] at h
    obtain ⟨an, han, h1⟩ := ob_some' h
    obtain ⟨hb, h2⟩ := bc_none h1
    obtain ⟨e, fr', H', o', e1, e2⟩ := opsDP_some (qs := []) (es := []) (fr0 := fr) hc h2
    refine ⟨e, fr', H', o', ?_, e2⟩
    simp only [cond_true, han, hb]
    exact e1
abbrev CP (α : Type) := PC α → AFr → AHeap → Orc → Option α
def codeResP (k : PC α) : TRes → Orc → Option α
  | .code e fr H, o => k e fr H o
  | _, _ => none
def seqP (b : CP α) (k : PC α) : PC α := fun e fr H o => AExit.rec (motive := fun _ => Option α) (b k fr H o) (fun id => k (.exit id) fr H o) (k .ret fr H o) (fun v => k (.panic v) fr H o) e
def condP (a b : CP α) (k : PC α) (fr : AFr) (H : AHeap) (o : Orc) : AV → Option α
  | .bool c => brN c (fun o => a k fr H o) (fun o => b k fr H o) o
  | _ => none
def blockP (id : Nat) (k : PC α) : PC α := fun e fr H o => AExit.rec (motive := fun _ => Option α) (k .normal fr H o) (fun i => bc (Nat.beq i id) (k .normal fr H o) (k (.exit i) fr H o)) (k .ret fr H o) (fun v => k (.panic v) fr H o) e
def loopP (cl : PCl α) (c : Code) (k : PC α) : PC α := fun e fr H o => AExit.rec (motive := fun _ => Option α) (cl (.code (.loop c) fr H) o (codeResP k)) (fun id => k (.exit id) fr H o) (k .ret fr H o) (fun v => k (.panic v) fr H o) e
def rangeResP (k : PC α) (fr : AFr) (nx : Nat) : TRes → Orc → Option α
  | .call (.ret _ H'), o => (match H'.get (nx + 1) with
    | some (.loop .busy _ _ _ _ _ _ _) => none
    | some (.loop _ none n t p a b d) => k .normal ⟨fr.n, fr.t, .mark nx :: fr.df, fr.rd⟩ (H'.put (nx + 1) (.loop .exhausted none n t p a b d)) o
    | some (.loop _ (some .ret) n t p a b d) => k .ret ⟨fr.n, fr.t, .mark nx :: fr.df, fr.rd⟩ (H'.put (nx + 1) (.loop .exhausted (some .ret) n t p a b d)) o
    | some (.loop _ (some (.exit i)) n t p a b d) => k (.exit i) ⟨fr.n, fr.t, .mark nx :: fr.df, fr.rd⟩ (H'.put (nx + 1) (.loop .exhausted (some (.exit i)) n t p a b d)) o
    | _ => none)
  | _, _ => none
def rangeP (E : Env) (cl : PCl α) (ps : Array Nat) (assign body : Code) (k : PC α) (fr : AFr) (H : AHeap) (o : Orc) : AV → Option α
  | .fn g first cap => ob (E.fn g) fun _ => cl (.call g (first ++ (.yld (H.next + 1) :: cap)) ((H.new .dfr).new (.loop .ready none fr.n fr.t ps.toList assign body H.next))) o (rangeResP k fr H.next)
  | _ => none
def codeP (E : Env) (pn : Pin) (cl : PCl α) (c : Code) : CP α :=
  Code.rec (motive := fun _ => CP α) (fun k fr H o => k .normal fr H o) (fun _ ops draw k => regP E pn cl ops draw k) (fun _ _ a b k => a (seqP b k)) (fun c _ _ a b k fr H o => ob (opdR E fr.t c) fun v => condP a b k fr H o v) (fun id _ a k => a (blockP id k)) (fun c a k => a (loopP cl c k))
    (fun f ps assign body _ _ k fr H o => bc fr.rd none (ob (opdR E fr.t f) fun v => rangeP E cl ps assign body k fr H o v)) (fun id k fr H o => k (.exit id) fr H o) (fun _ _ _ _ _ _ => none) (fun _ k fr H o => k .normal fr H o) (fun _ _ _ _ _ => none) (fun k fr H o => k .ret fr H o) (fun _ _ _ _ _ => none) c
theorem codeP_some {E : Env} {pn : Pin} {cl : PCl α} {ih : Task → Option TRes} (hc : POk cl ih) : ∀ (c : Code) (k : PC α) (fr : AFr) (H : AHeap) (o : Orc) (r : α), codeP E pn cl c k fr H o = some r → ∃ e fr' H' o', codeA E ih c fr H = some (.code e fr' H') ∧ k e fr' H' o' = some r := by
  intro c
  induction c with
  | skip => intro k fr H o r h; exact ⟨_, _, _, o, rfl, h⟩
  | region id ops draw => intro k fr H o r h; exact regP_some hc h
  | seq a b iha ihb =>
    intro k fr H o r h
    obtain ⟨e, fr1, H1, o1, e1, e2⟩ := iha (seqP (codeP E pn cl b) k) fr H o r h
    simp only [codeA, e1]
    cases e with
    | normal => exact ihb k fr1 H1 o1 r e2
    | exit i => exact ⟨_, _, _, o1, rfl, e2⟩
    | ret => exact ⟨_, _, _, o1, rfl, e2⟩
    | panic v => exact ⟨_, _, _, o1, rfl, e2⟩
  | cond c a b iha ihb =>
    intro k fr H o r h
    have h' : (ob (opdR E fr.t c) fun v => condP (codeP E pn cl a) (codeP E pn cl b) k fr H o v) = some r := h
    rw [opdR_eq] at h'
    obtain ⟨v, hv, h1⟩ := ob_some' h'
    simp only [codeA, hv]
    cases v <;> try (cases h1; done)
    rename_i t
    obtain ⟨o1, h5⟩ := brN_some h1
    clear h1 h'
    rcases h5 with ⟨ht, h5⟩ | ⟨ht, h5⟩
    · subst ht
      exact iha k fr H o1 r h5
    · subst ht
      exact ihb k fr H o1 r h5
  | block id a iha =>
    intro k fr H o r h
    obtain ⟨e, fr1, H1, o1, e1, e2⟩ := iha (blockP id k) fr H o r h
    simp only [codeA, e1]
    cases e with
    | normal => exact ⟨_, _, _, o1, rfl, e2⟩
    | ret => exact ⟨_, _, _, o1, rfl, e2⟩
    | panic v => exact ⟨_, _, _, o1, rfl, e2⟩
    | exit i =>
      have e2' : bc (Nat.beq i id) (k .normal fr1 H1 o1) (k (.exit i) fr1 H1 o1) = some r := e2
      simp only
      cases hb : Nat.beq i id with
      | true => rw [hb] at e2'; exact ⟨_, _, _, o1, rfl, e2'⟩
      | false => rw [hb] at e2'; exact ⟨_, _, _, o1, rfl, e2'⟩
  | loop a iha =>
    intro k fr H o r h
    obtain ⟨e, fr1, H1, o1, e1, e2⟩ := iha (loopP cl a k) fr H o r h
    simp only [codeA, e1]
    cases e with
    | normal =>
      obtain ⟨x, o2, hx, e3⟩ := hc _ _ _ _ e2
      cases x with
      | code e' fr' H' => exact ⟨e', fr', H', o2, hx, e3⟩
      | call => cases e3
      | dcall => cases e3
    | exit i => exact ⟨_, _, _, o1, rfl, e2⟩
    | ret => exact ⟨_, _, _, o1, rfl, e2⟩
    | panic v => exact ⟨_, _, _, o1, rfl, e2⟩
  | rangeFunc f ps a b _ _ =>
    intro k fr H o r h
    have h' : bc fr.rd none (ob (opdR E fr.t f) fun v => rangeP E cl ps a b k fr H o v) = some r := h
    rcases bc_some h' with ⟨_, h'⟩ | ⟨hrd, h1⟩
    · cases h'
    rw [opdR_eq] at h1
    obtain ⟨v, hv, h1⟩ := ob_some' h1
    simp only [codeA, hrd, cond_false, hv]
    cases v <;> try (cases h1; done)
    rename_i g first cap
    obtain ⟨fn, hfn, h2⟩ := ob_some' h1
    obtain ⟨x, o2, hx, h3⟩ := hc _ _ _ _ h2
    simp only [hfn, hx]
    cases x with
    | code => cases h3
    | dcall => cases h3
    | call y =>
      cases y with
      | pan => cases h3
      | ret v H' =>
        simp only [rangeResP] at h3
        dsimp only
        have hfr : ∀ l : List ADf, AFr.mk fr.n fr.t l fr.rd = { fr with df := l } := fun _ => rfl
        cases hg : H'.get (H.next + 1) with
        | none => rw [hg] at h3; cases h3
        | some o =>
          rw [hg] at h3
          cases o with
          | loop st pend n t p asz bo d =>
            cases st <;> first
              | (cases h3; done)
              | (cases pend with
                | none => exact ⟨_, _, _, o2, rfl, by rw [hrd] at h3; exact h3⟩
                | some e =>
                  cases e with
                  | normal => cases h3
                  | exit i => exact ⟨_, _, _, o2, rfl, by rw [hrd] at h3; exact h3⟩
                  | ret => exact ⟨_, _, _, o2, rfl, by rw [hrd] at h3; exact h3⟩
                  | panic v => cases h3)
          | _ => cases h3
  | exit id => intro k fr H o r h; exact ⟨_, _, _, o, rfl, h⟩
  | scope c _ => intro k fr H o r h; cases h
  | label l => intro k fr H o r h; exact ⟨_, _, _, o, rfl, h⟩
  | goto l => intro k fr H o r h; cases h
  | ret => intro k fr H o r h; exact ⟨_, _, _, o, rfl, h⟩
  | refuse w => intro k fr H o r h; cases h
def dcallResP (k : Bool → AHeap → Orc → Option α) : TRes → Orc → Option α
  | .dcall (.back taken H), o => k taken H o
  | _, _ => none
def leaveP (E : Env) (cl : PCl α) (rs : List ResultVar) (t : Tr AV) (k : TRes → Orc → Option α) (ds : List ADf) : Option AV → AHeap → Orc → Option α :=
  List.rec (motive := fun _ => Option AV → AHeap → Orc → Option α)
    (fun p H o => match p with
      | none => resL E t H rs fun l => k (.call (.ret (resV l) H)) o
      | some v => k (.call (.pan v H)) o)
    (fun d _ ih p H o => match d with
      | .mark id => (match H.get id with
        | some .dfr => ih p (H.kill id) o
        | _ => none)
      | .call f args => cl (.dcall f args p H) o (dcallResP fun taken H o => ih (bc taken none p) H o)) ds
theorem leaveP_some {E : Env} {cl : PCl α} {ih : Task → Option TRes} (hc : POk cl ih) {rs : List ResultVar} {t : Tr AV} {k : TRes → Orc → Option α} : ∀ {ds : List ADf} {p : Option AV} {H : AHeap} {o : Orc} {r : α}, leaveP E cl rs t k ds p H o = some r →
    ∃ x o', leaveA E ih rs t ds p H = some x ∧ k x o' = some r := by
  intro ds
  induction ds with
  | nil =>
    intro p H o r h
    cases p with
    | none =>
      obtain ⟨vs, hvs, h1⟩ := resL_some h
      exact ⟨_, o, by simp only [leaveA, hvs], h1⟩
    | some v => exact ⟨_, o, rfl, h⟩
  | cons d ds ihd =>
    intro p H o r h
    cases d with
    | mark id =>
      have h' : (match H.get id with
        | some .dfr => leaveP E cl rs t k ds p (H.kill id) o
        | _ => none) = some r := h
      simp only [leaveA]
      split at h'
      · rename_i hg
        rw [hg]
        exact ihd h'
      · cases h'
    | call f args =>
      have h' : cl (.dcall f args p H) o (dcallResP fun taken H o => leaveP E cl rs t k ds (bc taken none p) H o) = some r := h
      obtain ⟨x, o1, hx, h1⟩ := hc _ _ _ _ h'
      cases x with
      | code => cases h1
      | call => cases h1
      | dcall y =>
        obtain ⟨taken, H'⟩ := y
        obtain ⟨z, o2, hz, h2⟩ := ihd h1
        rw [bc_eq] at hz
        exact ⟨z, o2, by simp only [leaveA, hx]; exact hz, h2⟩
def retP (E : Env) (cl : PCl α) (rs : List ResultVar) (k : TRes → Orc → Option α) : PC α := fun e fr H o => AExit.rec (motive := fun _ => Option α) (leaveP E cl rs fr.t k fr.df none H o) (fun _ => none) (leaveP E cl rs fr.t k fr.df none H o) (fun v => leaveP E cl rs fr.t k fr.df (some v) H o) e
def endP (E : Env) (rs : List ResultVar) (taken : Bool) (k : TRes → Orc → Option α) : PC α := fun e fr H o => endT E rs taken (fun x => k x o) e fr H
def yieldEndP (id : Nat) (k : TRes → Orc → Option α) : PC α := fun e fr H o => yieldEnd id (fun x => k x o) e fr H
def yieldMidP (E : Env) (pn : Pin) (cl : PCl α) (id : Nat) (body : Code) (k : TRes → Orc → Option α) : PC α := fun e fr1 H1 o => match e with
  | .normal => (match H1.get id with
    | some (.loop .ready pend1 m1 u1 ps1 as1 bo1 d1) => codeP E pn cl body (yieldEndP id k) fr1 (H1.put id (.loop .busy pend1 m1 u1 ps1 as1 bo1 d1)) o
    | _ => none)
  | _ => none
def yieldP (E : Env) (pn : Pin) (cl : PCl α) (id : Nat) (args : List AV) (H : AHeap) (o : Orc) (k : TRes → Orc → Option α) : Option α := match H.get id with
  | some (.loop .ready _ n t ps assign body _) => ob (setParams n ps args t) fun t' => codeP E pn cl assign (yieldMidP E pn cl id body k) ⟨n, t', [], true⟩ H o
  | _ => none
theorem yieldP_some {E : Env} {pn : Pin} {cl : PCl α} {ih : Task → Option TRes} (hc : POk cl ih) {id : Nat} {args : List AV} {H : AHeap} {o : Orc} {k : TRes → Orc → Option α} {r : α} (h : yieldP E pn cl id args H o k = some r) : ∃ x o', stepA E ih (.yield id args H) = some x ∧ k x o' = some r := by
  unfold yieldP at h
  simp only [stepA]
  split at h
  case h_2 => cases h
  rename_i pend n t ps assign body d hg
  obtain ⟨t', ht, h1⟩ := ob_some' h
  obtain ⟨e, fr1, H1, o1, e1, h2⟩ := codeP_some hc _ _ _ _ _ _ h1
  simp only [hg, ht, e1]
  cases e <;> try (cases h2; done)
  simp only [yieldMidP] at h2
  dsimp only
  split at h2
  case h_2 => cases h2
  rename_i pend1 m1 u1 ps1 as1 bo1 d1 hg1
  obtain ⟨e2, fr2, H2, o2, e3, h3⟩ := codeP_some hc _ _ _ _ _ _ h2
  simp only [hg1, e3]
  unfold yieldEndP yieldEnd at h3
  split at h3
  case h_2 => cases h3
  rename_i st2 pend2 m2 u2 ps2 as2 bo2 d2 hg2
  simp only [hg2]
  cases e2 with
  | normal => exact ⟨_, o2, rfl, h3⟩
  | exit i => exact ⟨_, o2, rfl, h3⟩
  | ret => exact ⟨_, o2, rfl, h3⟩
  | panic v => cases h3
def dcallP (E : Env) (pn : Pin) (cl : PCl α) (f : FuncId) (args : List AV) (pan : Option AV) (H : AHeap) (o : Orc) (k : TRes → Orc → Option α) : Option α := ob (E.fn f) fun fn => match recFirst fn.body with
  | some (op, rest) => codeP E pn cl rest (endP E fn.results pan.isSome k) ((newFr fn args).put op.dst (recOf pan)) H o
  | none => codeP E pn cl fn.body (endP E fn.results false k) (newFr fn args) H o
def callP1 (E : Env) (s : Smk α) (pn : Pin) (cl : PCl α) (f : FuncId) (args : List AV) (H : AHeap) (o : Orc) (k : TRes → Orc → Option α) : Option α :=
  Option.rec (motive := fun _ => Option α) (s f args H fun v H => k (.call (.ret v H)) o) (fun fn => codeP E pn cl fn.body (retP E cl fn.results k) (newFr fn args) H o) (E.fn f)
def stepP (E : Env) (s : Smk α) (pn : Pin) (cl : PCl α) : PCl α := fun t o k => match t with
  | .code c fr H => codeP E pn cl c (fun e fr H o => k (.code e fr H) o) fr H o
  | .call f args H => callP1 E s pn cl f args H o k
  | .dcall f args pan H => dcallP E pn cl f args pan H o k
  | .yield id args H => yieldP E pn cl id args H o k
theorem stepP_some {E : Env} {s : Smk α} (hs : SmkOk E s) {pn : Pin} {cl : PCl α} {ih : Task → Option TRes} (hc : POk cl ih) : POk (stepP E s pn cl) (stepA E ih) := by
  intro t o k r h
  cases t with
  | code c fr H =>
    obtain ⟨e, fr', H', o', e1, e2⟩ := codeP_some hc _ _ _ _ _ _ h
    exact ⟨_, o', e1, e2⟩
  | yield id args H => exact yieldP_some hc h
  | call f args H =>
    have h' : Option.rec (motive := fun _ => Option α) (s f args H fun v H => k (.call (.ret v H)) o) (fun fn => codeP E pn cl fn.body (retP E cl fn.results k) (newFr fn args) H o) (E.fn f) = some r := h
    simp only [stepA]
    cases hf : E.fn f with
    | none =>
      rw [hf] at h'
      obtain ⟨v, H', hx, h1⟩ := hs f args H _ _ h'
      exact ⟨_, o, by simp only [hx], h1⟩
    | some fn =>
      rw [hf] at h'
      have h2 : codeP E pn cl fn.body (retP E cl fn.results k) (newFr fn args) H o = some r := h'
      obtain ⟨e, fr', H', o1, e1, e2⟩ := codeP_some hc _ _ _ _ _ _ h2
      simp only [e1]
      cases e with
      | normal => exact leaveP_some hc e2
      | ret => exact leaveP_some hc e2
      | panic v => exact leaveP_some hc e2
      | exit i => cases e2
  | dcall f args pan H =>
    obtain ⟨fn, hf, h1⟩ := ob_some' h
    simp only [stepA, hf]
    split at h1
    · rename_i op rest hr
      obtain ⟨e, fr', H', o1, e1, e2⟩ := codeP_some hc _ _ _ _ _ _ h1
      simp only [hr, e1]
      obtain ⟨x, hx, h2⟩ := endT_some (k := fun x => k x o1) e2
      exact ⟨x, o1, hx, h2⟩
    · rename_i hr
      obtain ⟨e, fr', H', o1, e1, e2⟩ := codeP_some hc _ _ _ _ _ _ h1
      simp only [hr, e1]
      obtain ⟨x, hx, h2⟩ := endT_some (k := fun x => k x o1) e2
      exact ⟨x, o1, hx, h2⟩
def callPS (E : Env) (s : Smk α) (pn : Pin) (n : Nat) : PCl α := Nat.rec (motive := fun _ => PCl α) (fun _ _ _ => none) (fun _ cl => stepP E s pn cl) n
theorem callPS_ok (E : Env) {s : Smk α} (hs : SmkOk E s) (pn : Pin) : ∀ n, POk (callPS E s pn n) (run E n)
  | 0 => fun t o k r h => by cases h
  | n + 1 => stepP_some hs (callPS_ok E hs pn n)
def callPP (E : Env) (pn : Pin) (n : Nat) : PCl α := callPS E (smC E) pn n
theorem callPP_ok (E : Env) (pn : Pin) (n : Nat) : POk (callPP (α := α) E pn n) (run E n) := callPS_ok E (smC_ok E) pn n
def callP (E : Env) (n : Nat) : PCl α := callPP E noPin n
theorem callP_ok (E : Env) (n : Nat) : POk (callP (α := α) E n) (run E n) := callPP_ok E noPin n
end
end Go.Vai
end
section
namespace Go.Vai
def Kept (gl : List (Nat × List AV)) (w0 : World) (M : List MEnt) (H : AHeap) (w : World) : Prop := GlobOk gl w ∧ Keeps w0 w ∧ ∀ b, b < w0.heap.size → ¬ Wr M H b
theorem Keeps.refl (w : World) : Keeps w w := ⟨Nat.le_refl _, rfl, rfl, rfl, fun _ _ => rfl⟩
theorem Keeps.trans {a b c : World} (h : Keeps a b) (k : Keeps b c) : Keeps a c := ⟨Nat.le_trans h.size k.size, k.os.trans h.os, k.tape.trans h.tape, k.output.trans h.output, fun i hi => (k.old i (Nat.lt_of_lt_of_le hi h.size)).trans (h.old i hi)⟩
theorem GlobOk.keeps {gl : List (Nat × List AV)} {w w' : World} (h : GlobOk gl w) (k : Keeps w w') : GlobOk gl w' := fun g av hm => by
  obtain ⟨cs, e, lo, hi, h1, h2⟩ := h g av hm
  exact ⟨cs, e, lo, hi, by rw [k.old g (Array.getElem?_eq_some_iff.1 h1).1]; exact h1, h2⟩
theorem kept_carried {gl : List (Nat × List AV)} {w0 : World} (hw : GlobOk gl w0) : Carried (Kept gl w0) where
  ext := fun M H w M' H' w' ⟨_, h2, h3⟩ x => by
    have k : Keeps w0 w' := ⟨Nat.le_trans h2.size x.size, x.os.trans h2.os, x.tape.trans h2.tape, x.output.trans h2.output, fun b hb => ((x.old b (Nat.lt_of_lt_of_le hb h2.size) (h3 b hb)).1).trans (h2.old b hb)⟩
    exact ⟨hw.keeps k, k, fun b hb => (x.old b (Nat.lt_of_lt_of_le hb h2.size) (h3 b hb)).2⟩
  ren := fun _ _ _ _ _ ⟨h1, h2, h3⟩ _ _ hs => ⟨h1, h2, fun b hb hw => h3 b hb (hs b hw)⟩
noncomputable def news (H : AHeap) : List AObj → AHeap
  | [] => H
  | o :: os => news (H.new o) os
theorem news_next : ∀ (os : List AObj) (H : AHeap), (news H os).next = H.next + os.length
  | [], _ => rfl
  | o :: os, H => by
    show (news (H.new o) os).next = _
    rw [news_next os]
    simp [AHeap.new]; omega
theorem news_get : ∀ {os : List AObj} {H : AHeap} {id : Nat} {o : AObj}, (news H os).get id = some o → (∃ j : Nat, id = H.next + j ∧ os[j]? = some o) ∨ (H.get id = some o ∧ ∀ j, id = H.next + j → os.length ≤ j)
  | [], _, _, _, h => .inr ⟨h, fun _ _ => Nat.zero_le _⟩
  | p :: os, H, id, o, h => by
    rcases news_get (os := os) (H := H.new p) h with ⟨j, e, hj⟩ | ⟨hg, hn⟩
    · refine .inl ⟨j + 1, ?_, by simpa using hj⟩
      simp only [AHeap.new] at e; omega
    · rcases AHeap.get_new hg with ⟨rfl, rfl⟩ | ⟨hne, hg⟩
      · exact .inl ⟨0, rfl, rfl⟩
      · refine .inr ⟨hg, fun j e => ?_⟩
        cases j with
        | zero => exact absurd e hne
        | succ j =>
          have := hn j (by simp only [AHeap.new]; omega)
          simp; omega
theorem transplant {gl : List (Nat × List AV)} {M : List MEnt} {H : AHeap} {w : World} (hr : HRel M H w) {M' : List MEnt} {H' : AHeap} {w' : World} (hr' : HRel M' H' w') (kp : Kept gl w M' H' w') {keep : List Nat} {os : List AObj} (hk : keep.Nodup) (hlen : os.length = keep.length)
    (ho : ∀ (j : Nat) (u : AObj), os[j]? = some u → ∃ i o, keep[j]? = some i ∧ H'.get i = some o ∧ RObj H.next keep o u ∧ o.isRo = false) {v u : AV} {cv : Value} (hv : VRel M' v cv) (hu : rnV H.next keep v = some u) :
    CallPost M H w (.ret u (news H os)) (.returned cv) w' := by
  obtain ⟨_, kp, nw⟩ := kp
  have hlt : ∀ i ∈ keep, i < M'.length := fun i hi => by
    obtain ⟨j, hj⟩ := List.getElem?_of_mem hi
    have hjl : j < os.length := by rw [hlen]; exact (List.getElem?_eq_some_iff.1 hj).1
    obtain ⟨i2, o, e1, e2, _⟩ := ho j os[j] (List.getElem?_eq_getElem hjl)
    rw [hj] at e1; cases e1
    exact hr'.lt e2
  have hren := renM_ren hlt
  have hM : MRen H.next keep M' (M ++ renM keep M') := fun k i hki => by
    have := hren k i hki
    rw [Nat.zero_add] at this
    rw [List.getElem?_append_right (by rw [hr.len]; omega), hr.len, show H.next + k - H.next = k by omega]
    exact this
  have pre : M <+: M ++ renM keep M' := List.prefix_append _ _
  have newAt : ∀ j i, keep[j]? = some i → (M ++ renM keep M')[H.next + j]? = M'[i]? := hM
  have inj : ∀ k l i : Nat, keep[k]? = some i → keep[l]? = some i → k = l := fun k l i hk' hl' =>
    (List.getElem?_inj (List.getElem?_eq_some_iff.1 hk').1 hk).1 (hk'.trans hl'.symm)
  have oldAt : ∀ id o, H.get id = some o → ∀ m, (M ++ renM keep M')[id]? = some m → M[id]? = some m ∧ m.block < w.heap.size := fun id o e m hm => by
    obtain ⟨m', hm', r⟩ := hr.obj id o e
    have := pre_get pre hm'
    rw [hm] at this; cases this
    exact ⟨hm', r.lt⟩
  have fresh : ∀ j o, os[j]? = some o → ∃ i p m, keep[j]? = some i ∧ H'.get i = some p ∧ RObj H.next keep p o ∧ (M ++ renM keep M')[H.next + j]? = some m ∧ M'[i]? = some m ∧ ORel M' m w' p ∧ w.heap.size ≤ m.block ∧ o.isRo = false := fun j o hj => by
    obtain ⟨i, p, e1, e2, e3, e4⟩ := ho j o hj
    obtain ⟨m, hm, r⟩ := hr'.obj i p e2
    refine ⟨i, p, m, e1, e2, e3, by rw [newAt j i e1]; exact hm, hm, r, ?_, by rw [e3.ro]; exact e4⟩
    by_cases hb : m.block < w.heap.size
    · exact absurd ⟨i, p, m, e2, e4, hm, rfl⟩ (nw _ hb)
    · omega
  have hr2 : HRel (M ++ renM keep M') (news H os) w' := by
    refine ⟨by rw [news_next, List.length_append, hr.len, hlen]; simp [renM], fun id o h => ?_, fun i j o p m k hi hj hm hk' hij hb => ?_⟩
    · rcases news_get h with ⟨j, rfl, hj⟩ | ⟨hg, _⟩
      · obtain ⟨i, p, m, e1, e2, e3, e4, e5, e6, _⟩ := fresh j o hj
        exact ⟨m, e4, e3.rel hM e6⟩
      · obtain ⟨m, hm, r⟩ := hr.obj id o hg
        exact ⟨m, pre_get pre hm, r.carry pre (kp.old _ r.lt)⟩
    · rcases news_get hi with ⟨a, rfl, ha⟩ | ⟨hi', _⟩ <;> rcases news_get hj with ⟨b, rfl, hb'⟩ | ⟨hj', _⟩
      · obtain ⟨i1, p1, m1, a1, a2, a3, a4, a5, _⟩ := fresh a o ha
        obtain ⟨i2, p2, m2, b1, b2, b3, b4, b5, _⟩ := fresh b p hb'
        rw [hm] at a4; cases a4
        rw [hk'] at b4; cases b4
        have hne : i1 ≠ i2 := fun e => by subst e; exact hij (by rw [inj a b i1 a1 b1])
        obtain ⟨z1, z2⟩ := hr'.inj i1 i2 p1 p2 m k a2 b2 a5 b5 hne hb
        exact ⟨by rw [a3.ro]; exact z1, by rw [b3.ro]; exact z2⟩
      · obtain ⟨i1, p1, m1, a1, a2, a3, a4, a5, a6, a7, _⟩ := fresh a o ha
        rw [hm] at a4; cases a4
        have := (oldAt j p hj' k hk').2
        omega
      · obtain ⟨i2, p2, m2, b1, b2, b3, b4, b5, b6, b7, _⟩ := fresh b p hb'
        rw [hk'] at b4; cases b4
        have := (oldAt i o hi' m hm).2
        omega
      · exact hr.inj i j o p m k hi' hj' (oldAt i o hi' m hm).1 (oldAt j p hj' k hk').1 hij hb
  refine ⟨u, news H os, _, rfl, ⟨pre, kp.size, kp.os, kp.tape, kp.output, fun b hb hn => ⟨kp.old b hb, fun hw => ?_⟩, fun b hb hn hw => ?_⟩, hr2, rnV_rel hM v u cv hu hv⟩
  · obtain ⟨id, o, m, e, hro, em, rfl⟩ := hw
    rcases news_get e with ⟨j, rfl, hj⟩ | ⟨hg, _⟩
    · obtain ⟨i, p, m2, e1, e2, e3, e4, e5, e6, e7, _⟩ := fresh j o hj
      rw [em] at e4; cases e4; omega
    · exact hn ⟨id, o, m, hg, hro, (oldAt id o hg m em).1, rfl⟩
  · obtain ⟨id, o, m, e, em, rfl⟩ := hw
    rcases news_get e with ⟨j, rfl, hj⟩ | ⟨hg, _⟩
    · obtain ⟨i, p, m2, e1, e2, e3, e4, e5, e6, e7, _⟩ := fresh j o hj
      rw [em] at e4; cases e4; omega
    · exact hn ⟨id, o, m, hg, (oldAt id o hg m em).1, rfl⟩
def BodyTo (P : Program) (gl : List (Nat × List AV)) (f : FuncId) (cargs : List Value) (R : AV → AHeap → Prop) : Prop :=
  ∀ w, GlobOk gl w → (callFunc f cargs.toArray).run P w = .ok (.enter f cargs.toArray) w ∧
    CallsIn Fence.wide 0 P f cargs.toArray w fun e w' => ∃ cv v H' M', e = .returned cv ∧ HRel M' H' w' ∧ Kept gl w M' H' w' ∧ VRel M' v cv ∧ R v H'
section
variable {E : Env} {P : Program}
theorem body_to {gl : List (Nat × List AV)} {f : FuncId} {args : List AV} {cargs : List Value} {R : AV → AHeap → Prop} (hE : ∀ w, GlobOk gl w → EnvOk E P (Kept gl w)) (hgl : (gl.all fun x => Nat.blt x.1 E.ng) = true) {fn : AFunc} (hf : E.fn f = some fn)
    (ha : VRels (mGlob E.ng 0) args cargs)
    (h : ∀ w, GlobOk gl w → Tri E P (Kept gl w) none fn.body (newFr fn args) (gHeap E.ng gl) fun e fr H => (e = .normal ∨ e = .ret) ∧ fr.df = [] ∧ ∃ l, resA E fr.t H fn.results = some l ∧ R (resV l) H) : BodyTo P gl f cargs R := by
  intro w hw
  obtain ⟨Fn, hF⟩ := (hE w hw).fns f fn hf
  have hr : HRel (mGlob E.ng 0) (gHeap E.ng gl) w := gHeap_rel (mGlob_len _ _) fun g av hm => by
    have hg : g < E.ng := by
      have := List.all_eq_true.1 hgl _ hm
      simpa using this
    exact ⟨hg, by rw [mGlob_get _ 0 g hg]; simp, hw g av hm⟩
  have kp : Kept gl w (mGlob E.ng 0) (gHeap E.ng gl) w := ⟨hw, Keeps.refl w, fun b _ ⟨id, o, m, e, r, _⟩ => by rw [gHeap_ro _ _ id o e] at r; cases r⟩
  refine ⟨enter_run hF _, callsIn_of_wp hF.at_ hF.body trivial ?_⟩
  refine wpIn_mono (h w hw _ w _ ⟨hr, grel_glob E, kp⟩ (newFr_rel hF ha)) ?_
  rintro ex a1 w1 ⟨e, fr, H1, M1, ⟨he, hd, l, hl, hR⟩, s1, er, f1⟩
  have hdf : a1.defers = [] := by
    have := f1.df
    rw [hd] at this
    generalize a1.defers = x at this ⊢
    cases this; rfl
  rw [← hF.res] at hl
  obtain ⟨cv, r1, r2⟩ := results_sound (hE w hw).tys s1.hr f1.t hl
  rcases he with rfl | rfl
  · simp only [ERel] at er; subst er
    exact ⟨hdf, cv, r1, cv, _, H1, M1, rfl, s1.hr, s1.i, r2, hR⟩
  · simp only [ERel] at er; subst er
    exact ⟨hdf, cv, r1, cv, _, H1, M1, rfl, s1.hr, s1.i, r2, hR⟩
theorem BodyTo.calls {gl : List (Nat × List AV)} {f : FuncId} {cargs : List Value} {R : AV → AHeap → Prop} (h : BodyTo P gl f cargs R) {M : List MEnt} {H : AHeap} {w : World} (hw : GlobOk gl w) (hr : HRel M H w) {u : AV} {os : List AObj}
    (hR : ∀ v H', R v H' → ∃ keep : List Nat, keep.Nodup ∧ os.length = keep.length ∧ rnV H.next keep v = some u ∧ ∀ (j : Nat) (x : AObj), os[j]? = some x → ∃ i o, keep[j]? = some i ∧ H'.get i = some o ∧ RObj H.next keep o x ∧ o.isRo = false) :
    CallsA P f cargs M H w (.ret u (news H os)) := by
  obtain ⟨h1, h2⟩ := h w hw
  refine .inr ⟨h1, CallsIn.mono h2 ?_⟩
  rintro e w' ⟨cv, v, H', M', rfl, hr', kp, hv, r⟩
  obtain ⟨keep, k1, k2, k3, k4⟩ := hR v H' r
  exact transplant hr hr' kp k1 k2 k4 hv k3
end
end Go.Vai
end
section
namespace Go.Vai
section
variable {P : Program} {M : List MEnt} {w : World}
theorem EsRel.at_ : ∀ {es : List (AV × AV × Nat)} {ces : List MapEntry}, EsRel M es ces → ∀ {i : Nat} {e : MapEntry}, ces[i]? = some e → ∃ x, es[i]? = some x ∧ VRel M x.1 e.key ∧ VRel M x.2.1 e.val ∧ e.born = x.2.2
  | [], [], _, i, e, h => by simp at h
  | (k, v, b) :: es, c :: ces, ⟨r1, r2, r3, r4⟩, 0, e, h => by
    simp only [List.getElem?_cons_zero, Option.some.injEq] at h
    subst h
    exact ⟨_, rfl, r1, r2, r3⟩
  | (k, v, b) :: es, c :: ces, ⟨_, _, _, r4⟩, i + 1, e, h => by
    simpa using EsRel.at_ r4 (i := i) (e := e) (by simpa using h)
end
noncomputable section
variable {α : Type}
abbrev NC (α : Type) := AExit → AFr → AHeap → Orc → Option α
abbrev NCl (α : Type) := Task → Orc → (TRes → Orc → Option α) → Option α
def codeResN (k : NC α) : TRes → Orc → Option α
  | .code e fr H, o => k e fr H o
  | _, _ => none
def loopN (cl : NCl α) (c : Code) (k : NC α) : NC α := fun e fr H o => AExit.rec (motive := fun _ => Option α) (cl (.code (.loop c) fr H) o (codeResN k)) (fun id => k (.exit id) fr H o) (k .ret fr H o) (fun v => k (.panic v) fr H o) e
end
def CallsN (P : Program) (f : FuncId) (cargs : List Value) (M : List MEnt) (H : AHeap) (w : World) (Q : CRes → Prop) : Prop :=
  (∃ cv w' cr, (callFunc f cargs.toArray).run P w = .ok (.value cv) w' ∧ Q cr ∧ CallPost M H w cr (.returned cv) w') ∨ Enters P f cargs w fun en w' => ∃ cr, Q cr ∧ CallPost M H w cr en w'
def NPost (ro : Option Nat) (M : List MEnt) (H : AHeap) (w : World) (Q : AExit → AFr → AHeap → Prop) (x : Exit) (a : Act) (w' : World) : Prop := ∃ e fr' H', Q e fr' H' ∧ CPost ro M H w e fr' H' x a w'
structure NSound {α : Type} (E : Env) (P : Program) (I : List MEnt → AHeap → World → Prop) (cl : NCl α) : Prop where
  loop : ∀ ro c fr H o k r M w a, cl (.code (.loop c) fr H) o k = some r → St E I M H w → FRel ro M fr a → LoopWp (FF ro) P c (NPost ro M H w fun e fr' H' => ∃ o', k (.code e fr' H') o' = some r) a w
  call : ∀ f args H o k r M w cargs, cl (.call f args H) o k = some r → St E I M H w → VRels M args cargs → CallsN P f cargs M H w fun cr => ∃ o', k (.call cr) o' = some r
section
variable {α : Type} {E : Env} {P : Program} {I : List MEnt → AHeap → World → Prop} {ih : Task → Option TRes} {ro : Option Nat} {M : List MEnt} {H : AHeap} {w : World} {clD : Cl α} {cl : NCl α} {q : α → α → Bool}
theorem CallsN.of {f : FuncId} {cargs : List Value} {r : CRes} (h : CallsA P f cargs M H w r) {Q : CRes → Prop} (hq : Q r) : CallsN P f cargs M H w Q := by
  rcases h with ⟨cv, w', h1, h2⟩ | ⟨h1, h2⟩
  · exact .inl ⟨cv, w', r, h1, hq, h2⟩
  · exact .inr ⟨h1, CallsIn.mono h2 fun e w' hp => ⟨r, hq, hp⟩⟩
theorem NPost.mono {Q Q' : AExit → AFr → AHeap → Prop} (hq : ∀ e fr H, Q e fr H → Q' e fr H) {x : Exit} {a : Act} {w' : World} (h : NPost ro M H w Q x a w') : NPost ro M H w Q' x a w' := by
  obtain ⟨e, fr, H', q, p⟩ := h
  exact ⟨e, fr, H', hq _ _ _ q, p⟩
theorem NPost.after {M1 : List MEnt} {H1 : AHeap} {w1 : World} (x : Ext M H w M1 H1 w1) {Q : AExit → AFr → AHeap → Prop} {ex : Exit} {a : Act} {w' : World} (h : NPost ro M1 H1 w1 Q ex a w') : NPost ro M H w Q ex a w' := by
  obtain ⟨e, fr, H', q, p⟩ := h
  exact ⟨e, fr, H', q, p.after x⟩
structure WayOk (ro : Option Nat) (M : List MEnt) (H : AHeap) (w : World) (dst : Option Tmp) (a : Act) (next : Act → World → Prop) (Q : Exit → Act → World → Prop) (k kp : AV → AHeap → Prop) (kd : FuncId → List AV → Prop) : Prop where
  val : ∀ v H', k v H' → ∀ cv w' M', Ext M H w M' H' w' → HRel M' H' w' → VRel M' v cv → next (a.put dst cv) w'
  pan : ∀ v H', kp v H' → ∀ cv w' M', Ext M H w M' H' w' → HRel M' H' w' → VRel M' v cv → Q (.panic [{ v := cv, recovered := false }]) a w'
  dfr : ∀ f args, kd f args → ro = none ∧ ∀ d, DfRel M (.call f args) d → next ({ a with defers := d :: a.defers }.put dst undef) w
theorem leavesIn_mono {F : Fence} {n : Nat} {fn : Func} {tmps : Array Value} {R R' : Ending → World → Prop} (hr : ∀ e w, R e w → R' e w) : ∀ (u : FrameMode) (w : World), LeavesIn F n P fn tmps R [] u w → LeavesIn F n P fn tmps R' [] u w
  | .returning, _w, ⟨v, h1, h2⟩ => ⟨v, h1, hr _ _ h2⟩
  | .panicking _ch, _w, h => hr _ _ h
  | .run, _, h => h
theorem leavesInM_mono {F : Fence} {n : Nat} {fn : Func} {tmps : Array Value} {R R' : Ending → World → Prop} (hr : ∀ e w, R e w → R' e w) : ∀ (ds : List Deferred) (u : FrameMode) (w : World), LeavesInM F n P fn tmps R ds u w → LeavesInM F n P fn tmps R' ds u w
  | [], u, w, h => leavesIn_mono hr u w h
  | d :: ds, u, w, ⟨h1, h2⟩ => by
    refine ⟨h1, ?_⟩
    rcases h2 with ⟨r, w', e1, e2, e3⟩ | ⟨e0, fv, cap, f, args, e1, e2, e3, e4⟩
    · exact .inl ⟨r, w', e1, e2, leavesInM_mono hr ds u w' e3⟩
    · refine .inr ⟨e0, fv, cap, f, args, e1, e2, e3, CallsDIn.mono e4 fun e u' w' h => ?_⟩
      cases e with
      | returned _ => exact leavesInM_mono hr ds _ w' h
      | panicked _ => exact leavesInM_mono hr ds _ w' h
      | outgrown => exact hr _ _ h
end
end Go.Vai
end
