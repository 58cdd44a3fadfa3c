/- Trees whose branches may be named ahead ('Orc'): what they say, the interpreter answers. -/
import Derived.Test.YtopjbfgikglncaaGreatDoorVaiK2
namespace Go.Vai
noncomputable section
variable {α : Type}
abbrev Orc := List Bool
abbrev PC (α : Type) := AExit → AFr → AHeap → Orc → Option α
abbrev PCl (α : Type) := Task → Orc → (TRes → Orc → Option α) → Option α
def POk (cl : PCl α) (ih : Task → Option TRes) : Prop := ∀ t o k r, cl t o k = some r → ∃ x o', ih t = some x ∧ k x o' = some r
/-- A branch: where it is named ahead, that one alone. -/
def brN (x : Bool) (t f : Orc → Option α) (o : Orc) : Option α :=
  List.rec (motive := fun _ => Option α) (bc x (t []) (f [])) (fun y o' _ => bc y (bc x (t o') none) (bc x none (f o'))) o
theorem brN_some {x : Bool} {t f : Orc → Option α} {o : Orc} {r : α} (h : brN x t f o = some r) : ∃ o', (x = true ∧ t o' = some r) ∨ (x = false ∧ f o' = some r) := by
  cases o with
  | nil => exact ⟨[], bc_some h⟩
  | cons y o' =>
    have h' : bc y (bc x (t o') none) (bc x none (f o')) = some r := h
    refine ⟨o', ?_⟩
    cases y with
    | true =>
      rw [bc_true] at h'
      exact .inl (bc_none h')
    | false =>
      rw [bc_false] at h'
      rcases bc_some h' with ⟨_, h1⟩ | h1
      · cases h1
      · exact .inr h1
def wantNV (fr : AFr) (d : Nat) (want : Bool) (kt kf : AFr → Orc → Option α) (o : Orc) : AV → Option α
  | .bool b => bc (Nat.blt d 1000001) (brN b (fun o => bc want (kt (fixB fr d true) o) (kf (fixB fr d true) o)) (fun o => bc want (kf (fixB fr d false) o) (kt (fixB fr d false) o)) o) none
  | .tup _ => kf fr o
  | _ => none
def wantN (all : Array Oper) (fr : AFr) (kt kf : AFr → Orc → Option α) (o : Orc) : Option (Nat × Bool) → Option α
  | none => kt fr o
  | some (j, want) => match (all[j]?).bind (·.dst) with
    | none => kf fr o
    | some d => ob (fr.t.get d) fun v => wantNV fr d want kt kf o v
theorem wantN_some {all : Array Oper} {fr : AFr} {kt kf : AFr → Orc → Option α} {op : Oper} {o : Orc} {r : α} (h : wantN all fr kt kf o op.guard = some r) : ∃ o', (wantedA all fr.t op = some true ∧ kt fr o' = some r) ∨ (wantedA all fr.t op = some false ∧ kf fr o' = some r) := by
  unfold wantedA
  cases hg : op.guard with
  | none => rw [hg] at h; exact ⟨o, .inl ⟨rfl, h⟩⟩
  | some g =>
    obtain ⟨j, want⟩ := g
    rw [hg] at h
    simp only [wantN] at h ⊢
    cases hd : (all[j]?).bind (·.dst) with
    | none => rw [hd] at h; exact ⟨o, .inr ⟨rfl, h⟩⟩
    | some d =>
      rw [hd] at h
      simp only at h ⊢
      obtain ⟨v, hv, h⟩ := ob_some' h
      rw [hv]
      cases v <;> try (cases h; done)
      case bool b =>
        simp only [wantNV] at h
        obtain ⟨hlt, h⟩ := bc_none h
        rw [Nat.blt_eq] at hlt
        have e := fixB_eq hlt hv
        obtain ⟨o', h5⟩ := brN_some h
        clear h
        refine ⟨o', ?_⟩
        rcases h5 with ⟨hb, h5⟩ | ⟨hb, h5⟩
        · subst hb
          rw [e] at h5
          cases want with
          | true => exact .inl ⟨rfl, h5⟩
          | false => exact .inr ⟨rfl, h5⟩
        · subst hb
          rw [e] at h5
          cases want with
          | true => exact .inr ⟨rfl, h5⟩
          | false => exact .inl ⟨rfl, h5⟩
      case tup l => exact ⟨o, .inr ⟨rfl, h⟩⟩


def callResP (k kp : AV → AHeap → Orc → Option α) : TRes → Orc → Option α
  | .call (.ret v H), o => k v H o
  | .call (.pan v H), o => kp v H o
  | _, _ => none
def yieldResP (k : AV → AHeap → Orc → Option α) : TRes → Orc → Option α
  | .call (.ret v H), o => k v H o
  | _, _ => none
def resP (cl : PCl α) (H : AHeap) (k kp : AV → AHeap → Orc → Option α) (kd : FuncId → List AV → Orc → Option α) (o : Orc) : ARes → Option α
  | .val v H => k v H o
  | .skip H => k undefA H o
  | .panic v H => kp v H o
  | .call f args => cl (.call f args H) o (callResP k kp)
  | .ycall id args => cl (.yield id args H) o (yieldResP k)
  | .defer f args => kd f args o
theorem resP_some {cl : PCl α} {ih : Task → Option TRes} (hc : POk cl ih) {H : AHeap} {k kp : AV → AHeap → Orc → Option α} {kd : FuncId → List AV → Orc → Option α} {o : Orc} {x : ARes} {r : α} (h : resP cl H k kp kd o x = some r) :
    ∃ o', (∃ v H', (callsA ih H x = some (.val v H') ∨ (callsA ih H x = some (.skip H') ∧ v = undefA)) ∧ k v H' o' = some r) ∨ (∃ v H', callsA ih H x = some (.panic v H') ∧ kp v H' o' = some r) ∨ (∃ f args, callsA ih H x = some (.defer f args) ∧ kd f args o' = some r) := by
  cases x with
  | val v H1 => exact ⟨o, .inl ⟨v, H1, .inl rfl, h⟩⟩
  | skip H1 => exact ⟨o, .inl ⟨undefA, H1, .inr ⟨rfl, rfl⟩, h⟩⟩
  | panic v H1 => exact ⟨o, .inr (.inl ⟨v, H1, rfl, h⟩)⟩
  | defer f args => exact ⟨o, .inr (.inr ⟨f, args, rfl, h⟩)⟩
  | call f args =>
    obtain ⟨y, o', hy, h1⟩ := hc _ _ _ _ h
    cases y with
    | call c =>
      cases c with
      | ret v H1 => exact ⟨o', .inl ⟨v, H1, .inl (by simp [callsA, hy]), h1⟩⟩
      | pan v H1 => exact ⟨o', .inr (.inl ⟨v, H1, by simp [callsA, hy], h1⟩)⟩
    | code => cases h1
    | dcall => cases h1
  | ycall id args =>
    obtain ⟨y, o', hy, h1⟩ := hc _ _ _ _ h
    cases y with
    | call c =>
      cases c with
      | ret v H1 => exact ⟨o', .inl ⟨v, H1, .inl (by simp [callsA, hy]), h1⟩⟩
      | pan v H1 => cases h1
    | code => cases h1
    | dcall => cases h1

def deferP (k : AFr → AHeap → Orc → Option α) (op : Oper) (fr : AFr) (H : AHeap) (f : FuncId) (args : List AV) (o : Orc) : Option α := bc fr.rd none (k (putR ⟨fr.n, fr.t, .call f args :: fr.df, fr.rd⟩ op.dst undefA) H o)
/-- Which rests of divisions are named ahead. -/
abbrev Pin := Oper → Option Int
def noPin : Pin := fun _ => none
def pinV (n : Int) (k : ARes → Option α) : ARes → Option α
  | .val (.int kd x) H => bc (ieq x n) (k (.val (.int kd n) H)) none
  | _ => none
def pinX (pn : Pin) (op : Oper) (x : ARes) (k : ARes → Option α) : Option α := Option.rec (motive := fun _ => Option α) (k x) (fun n => pinV n k x) (pn op)
def pinK (pn : Pin) (op : Oper) (x : ARes) (k : ARes → Option α) : Option α := match op.op with
  | .binOp .rem _ _ _ _ => pinX pn op x k
  | _ => k x
theorem pinK_some {pn : Pin} {op : Oper} {x : ARes} {k : ARes → Option α} {r : α} (h : pinK pn op x k = some r) : k x = some r := by
  unfold pinK at h
  split at h
  case h_2 => exact h
  unfold pinX at h
  cases hp : pn op with
  | none => rw [hp] at h; exact h
  | some n =>
    rw [hp] at h
    have h2 : pinV n k x = some r := h
    unfold pinV at h2
    split at h2
    case h_2 => cases h2
    rename_i kd y H
    obtain ⟨h3, h4⟩ := bc_none h2
    have e : y = n := by
      cases y <;> cases n <;> simp_all [ieq]
    rw [e]; exact h4
def opP (E : Env) (pn : Pin) (cl : PCl α) (all : Array Oper) (op : Oper) (kp : AV → AFr → AHeap → Orc → Option α) (k : AFr → AHeap → Orc → Option α) : AFr → AHeap → Orc → Option α := fun fr H o =>
  wantN all fr (fun fr o => kOp op E H fr.t fun x => pinK pn op x fun x => resP cl H (fun v H o => k (putR fr op.dst v) H o) (fun v H o => kp v fr H o) (deferP k op fr H) o x) (fun fr o => k (putR fr op.dst undefA) H o) o op.guard
def opsP (E : Env) (pn : Pin) (cl : PCl α) (all : Array Oper) (k : PC α) (l : List Oper) : AFr → AHeap → Orc → Option α :=
  List.rec (motive := fun _ => AFr → AHeap → Orc → Option α) (k .normal) (fun op _ ih => opP E pn cl all op (fun v fr H o => k (.panic v) fr H o) ih) l
theorem opsP_some {E : Env} {pn : Pin} {cl : PCl α} {ih : Task → Option TRes} (hc : POk cl ih) {all : Array Oper} {k : PC α} : ∀ {l : List Oper} {fr : AFr} {H : AHeap} {o : Orc} {r : α}, opsP E pn cl all k l fr H o = some r →
    ∃ e fr' H' o', opsA E ih all l fr H = some (.code e fr' H') ∧ k e fr' H' o' = some r := by
  intro l
  induction l with
  | nil => intro fr H o r h; exact ⟨.normal, fr, H, o, rfl, h⟩
  | cons op l ihl =>
    intro fr H o r h
    have h' : opP E pn cl all op (fun v fr H o => k (.panic v) fr H o) (opsP E pn cl all k l) fr H o = some r := h
    simp only [opsA]
    obtain ⟨o1, hw⟩ := wantN_some h'
    rcases hw with ⟨hw, h1⟩ | ⟨hw, h1⟩
    · obtain ⟨x, hx, h2⟩ := kOp_some h1
      replace h2 := pinK_some h2
      simp only [hw, hx]
      obtain ⟨o2, h2⟩ := resP_some hc h2
      rcases h2 with ⟨y, H1, hy, h3⟩ | ⟨y, H1, hy, h3⟩ | ⟨f, args, hy, h3⟩
      · rw [putR_eq] at h3
        obtain ⟨e, fr', H', o', e1, e2⟩ := ihl h3
        refine ⟨e, fr', H', o', ?_, e2⟩
        rcases hy with hy | ⟨hy, rfl⟩
        · simp only [hy]; exact e1
        · simp only [hy]; exact e1
      · exact ⟨_, _, _, o2, by simp only [hy], h3⟩
      · unfold deferP at h3
        rcases bc_some h3 with ⟨_, h4⟩ | ⟨hrd, h4⟩
        · cases h4
        · rw [putR_eq] at h4
          obtain ⟨e, fr', H', o', e1, e2⟩ := ihl h4
          exact ⟨e, fr', H', o', by simp only [hy, hrd, cond_false]; rw [hrd] at e1; exact e1, e2⟩
    · rw [putR_eq] at h1
      obtain ⟨e, fr', H', o', e1, e2⟩ := ihl h1
      exact ⟨e, fr', H', o', by simp only [hw]; exact e1, e2⟩

/-! ### A region whose order is open -/
abbrev DP (α : Type) := Nat → List QRec → List ERec → AFr → AHeap → Orc → Option α
def dResP (E : Env) (cl : PCl α) (an : Tr Nat) (all : Array Oper) (fr0 : AFr) (op : Oper) (rest : List Oper) (i m : Nat) (qs : List QRec) (es : List ERec) (fr : AFr) (H : AHeap) (q : Bool) (kc : PC α) (k : DP α) (o : Orc) (x : ARes) : Option α :=
  bc q (match x with
      | .val v H' => allE E op fr.t v m (k (i + 1) (⟨i, op, fr.t, v⟩ :: qs) es (putR fr op.dst v) H' o) es
      | _ => none)
    (resP cl H (fun v H' o => allQ E H' m (k (i + 1) qs (⟨i, H⟩ :: es) (putR fr op.dst v) H' o) qs) (fun v H' o => bc (restOk an i rest (i + 1)) (kc (.panic v) ⟨fr0.n, delDsts fr0.t all.toList, fr0.df, fr0.rd⟩ H' o) none) (fun _ _ _ => none) o x)
def dOpP (E : Env) (cl : PCl α) (an : Tr Nat) (all : Array Oper) (fr0 : AFr) (kc : PC α) (op : Oper) (rest : List Oper) (k : DP α) : DP α := fun i qs es fr H o =>
  wantN all fr (fun fr o => ob (an.get i) fun m => kOp op E H fr.t fun x => dResP E cl an all fr0 op rest i m qs es fr H (quietOp E op.op) kc k o x) (fun fr o => k (i + 1) qs es (putR fr op.dst undefA) H o) o op.guard
def opsDP (E : Env) (cl : PCl α) (an : Tr Nat) (all : Array Oper) (fr0 : AFr) (kc : PC α) (l : List Oper) : DP α :=
  List.rec (motive := fun _ => DP α) (fun _ _ _ fr H o => kc .normal fr H o) (fun op rest k => dOpP E cl an all fr0 kc op rest k) l
theorem opsDP_some {E : Env} {cl : PCl α} {ih : Task → Option TRes} (hc : POk cl ih) {an : Tr Nat} {all : Array Oper} {fr0 : AFr} {kc : PC α} : ∀ {l : List Oper} {i : Nat} {qs : List QRec} {es : List ERec} {fr : AFr} {H : AHeap} {o : Orc} {r : α},
    opsDP E cl an all fr0 kc l i qs es fr H o = some r → ∃ e fr' H' o', opsD E ih all an fr0 l i qs es fr H = some (.code e fr' H') ∧ kc e fr' H' o' = some r := by
  intro l
  induction l with
  | nil => intro i qs es fr H o r h; exact ⟨.normal, fr, H, o, rfl, h⟩
  | cons op l ihl =>
    intro i qs es fr H o r h
    have h' : dOpP E cl an all fr0 kc op l (opsDP E cl an all fr0 kc l) i qs es fr H o = some r := h
    simp only [opsD]
    obtain ⟨o1, hw⟩ := wantN_some h'
    rcases hw with ⟨hw, h1⟩ | ⟨hw, h1⟩
    · obtain ⟨m, hm, h2⟩ := ob_some' h1
      obtain ⟨x, hx, h3⟩ := kOp_some h2
      unfold dResP at h3
      cases hq : quietOp E op.op with
      | true =>
        rw [hq, bc_true] at h3
        cases x <;> try (cases h3; done)
        rename_i v H1
        obtain ⟨ha, h4⟩ := allE_some i h3
        rw [putR_eq] at h4
        have hH := quiet_same hq hx
        obtain ⟨e, fr', H', o', e1, e2⟩ := ihl (qs := ⟨i, op, fr.t, v⟩ :: qs) (es := es) h4
        refine ⟨e, fr', H', o', ?_, e2⟩
        simp only [hw, hm, hx, cond_true, ha]
        rw [hH] at e1
        exact e1
      | false =>
        rw [hq, bc_false] at h3
        obtain ⟨o2, h3⟩ := resP_some hc h3
        rcases h3 with ⟨y, H1, hy, h5⟩ | ⟨y, H1, hy, h5⟩ | ⟨f, args, hy, h5⟩
        · obtain ⟨ha, h6⟩ := allQ_some h5
          rw [putR_eq] at h6
          obtain ⟨e, fr', H', o', e1, e2⟩ := ihl (qs := qs) (es := ⟨i, H⟩ :: es) h6
          refine ⟨e, fr', H', o', ?_, e2⟩
          simp only [hw, hm, hx, cond_false]
          rcases hy with hy | ⟨hy, rfl⟩
          · simp only [hy, ha, cond_true]; exact e1
          · simp only [hy, ha, cond_true]; exact e1
        · obtain ⟨h6, h7⟩ := bc_none h5
          exact ⟨_, _, _, o2, by simp only [hw, hm, hx, cond_false, hy, h6, cond_true], h7⟩
        · cases h5
    · rw [putR_eq] at h1
      obtain ⟨e, fr', H', o', e1, e2⟩ := ihl h1
      exact ⟨e, fr', H', o', by simp only [hw]; exact e1, e2⟩
def regP (E : Env) (pn : Pin) (cl : PCl α) (ops : Array Oper) (draw : Bool) (k : PC α) : AFr → AHeap → Orc → Option α := fun fr H o =>
  bc draw (ob (ancs ops.toList 0 .nil) fun an => bc (allOk E an ops.toList && (Nat.ble fr.n 1000000 && Nat.ble ops.size 1000000)) (opsDP E cl an ops fr k ops.toList 0 [] [] fr H o) none) (opsP E pn cl ops k ops.toList fr H o)
theorem regP_some {E : Env} {pn : Pin} {cl : PCl α} {ih : Task → Option TRes} (hc : POk cl ih) {ops : Array Oper} {draw : Bool} {k : PC α} {fr : AFr} {H : AHeap} {o : Orc} {r : α} (h : regP E pn cl ops draw k fr H o = some r) :
    ∃ e fr' H' o', regionA E ih ops draw fr H = some (.code e fr' H') ∧ k e fr' H' o' = some r := by
  unfold regP at h
  unfold regionA
  cases draw with
  | false => rw [bc_false] at h; exact opsP_some hc h
  | true =>
    rw [bc_true] at h
    obtain ⟨an, han, h1⟩ := ob_some' h
    obtain ⟨hb, h2⟩ := bc_none h1
    obtain ⟨e, fr', H', o', e1, e2⟩ := opsDP_some (qs := []) (es := []) (fr0 := fr) hc h2
    refine ⟨e, fr', H', o', ?_, e2⟩
    simp only [cond_true, han, hb]
    exact e1

/-! ### Code -/
abbrev CP (α : Type) := PC α → AFr → AHeap → Orc → Option α
def codeResP (k : PC α) : TRes → Orc → Option α
  | .code e fr H, o => k e fr H o
  | _, _ => none
def seqP (b : CP α) (k : PC α) : PC α := fun e fr H o => AExit.rec (motive := fun _ => Option α) (b k fr H o) (fun id => k (.exit id) fr H o) (k .ret fr H o) (fun v => k (.panic v) fr H o) e
def condP (a b : CP α) (k : PC α) (fr : AFr) (H : AHeap) (o : Orc) : AV → Option α
  | .bool c => brN c (fun o => a k fr H o) (fun o => b k fr H o) o
  | _ => none
def blockP (id : Nat) (k : PC α) : PC α := fun e fr H o => AExit.rec (motive := fun _ => Option α) (k .normal fr H o) (fun i => bc (Nat.beq i id) (k .normal fr H o) (k (.exit i) fr H o)) (k .ret fr H o) (fun v => k (.panic v) fr H o) e
def loopP (cl : PCl α) (c : Code) (k : PC α) : PC α := fun e fr H o => AExit.rec (motive := fun _ => Option α) (cl (.code (.loop c) fr H) o (codeResP k)) (fun id => k (.exit id) fr H o) (k .ret fr H o) (fun v => k (.panic v) fr H o) e
def rangeResP (k : PC α) (fr : AFr) (nx : Nat) : TRes → Orc → Option α
  | .call (.ret _ H'), o => (match H'.get (nx + 1) with
    | some (.loop .busy _ _ _ _ _ _ _) => none
    | some (.loop _ none n t p a b d) => k .normal ⟨fr.n, fr.t, .mark nx :: fr.df, fr.rd⟩ (H'.put (nx + 1) (.loop .exhausted none n t p a b d)) o
    | some (.loop _ (some .ret) n t p a b d) => k .ret ⟨fr.n, fr.t, .mark nx :: fr.df, fr.rd⟩ (H'.put (nx + 1) (.loop .exhausted (some .ret) n t p a b d)) o
    | some (.loop _ (some (.exit i)) n t p a b d) => k (.exit i) ⟨fr.n, fr.t, .mark nx :: fr.df, fr.rd⟩ (H'.put (nx + 1) (.loop .exhausted (some (.exit i)) n t p a b d)) o
    | _ => none)
  | _, _ => none
def rangeP (E : Env) (cl : PCl α) (ps : Array Nat) (assign body : Code) (k : PC α) (fr : AFr) (H : AHeap) (o : Orc) : AV → Option α
  | .fn g first cap => ob (E.fn g) fun _ => cl (.call g (first ++ (.yld (H.next + 1) :: cap)) ((H.new .dfr).new (.loop .ready none fr.n fr.t ps.toList assign body H.next))) o (rangeResP k fr H.next)
  | _ => none
def codeP (E : Env) (pn : Pin) (cl : PCl α) (c : Code) : CP α :=
  Code.rec (motive := fun _ => CP α) (fun k fr H o => k .normal fr H o) (fun _ ops draw k => regP E pn cl ops draw k) (fun _ _ a b k => a (seqP b k)) (fun c _ _ a b k fr H o => ob (opdR E fr.t c) fun v => condP a b k fr H o v) (fun id _ a k => a (blockP id k)) (fun c a k => a (loopP cl c k))
    (fun f ps assign body _ _ k fr H o => bc fr.rd none (ob (opdR E fr.t f) fun v => rangeP E cl ps assign body k fr H o v)) (fun id k fr H o => k (.exit id) fr H o) (fun _ _ _ _ _ _ => none) (fun _ k fr H o => k .normal fr H o) (fun _ _ _ _ _ => none) (fun k fr H o => k .ret fr H o) (fun _ _ _ _ _ => none) c
theorem codeP_some {E : Env} {pn : Pin} {cl : PCl α} {ih : Task → Option TRes} (hc : POk cl ih) : ∀ (c : Code) (k : PC α) (fr : AFr) (H : AHeap) (o : Orc) (r : α), codeP E pn cl c k fr H o = some r → ∃ e fr' H' o', codeA E ih c fr H = some (.code e fr' H') ∧ k e fr' H' o' = some r := by
  intro c
  induction c with
  | skip => intro k fr H o r h; exact ⟨_, _, _, o, rfl, h⟩
  | region id ops draw => intro k fr H o r h; exact regP_some hc h
  | seq a b iha ihb =>
    intro k fr H o r h
    obtain ⟨e, fr1, H1, o1, e1, e2⟩ := iha (seqP (codeP E pn cl b) k) fr H o r h
    simp only [codeA, e1]
    cases e with
    | normal => exact ihb k fr1 H1 o1 r e2
    | exit i => exact ⟨_, _, _, o1, rfl, e2⟩
    | ret => exact ⟨_, _, _, o1, rfl, e2⟩
    | panic v => exact ⟨_, _, _, o1, rfl, e2⟩
  | cond c a b iha ihb =>
    intro k fr H o r h
    have h' : (ob (opdR E fr.t c) fun v => condP (codeP E pn cl a) (codeP E pn cl b) k fr H o v) = some r := h
    rw [opdR_eq] at h'
    obtain ⟨v, hv, h1⟩ := ob_some' h'
    simp only [codeA, hv]
    cases v <;> try (cases h1; done)
    rename_i t
    obtain ⟨o1, h5⟩ := brN_some h1
    clear h1 h'
    rcases h5 with ⟨ht, h5⟩ | ⟨ht, h5⟩
    · subst ht
      exact iha k fr H o1 r h5
    · subst ht
      exact ihb k fr H o1 r h5
  | block id a iha =>
    intro k fr H o r h
    obtain ⟨e, fr1, H1, o1, e1, e2⟩ := iha (blockP id k) fr H o r h
    simp only [codeA, e1]
    cases e with
    | normal => exact ⟨_, _, _, o1, rfl, e2⟩
    | ret => exact ⟨_, _, _, o1, rfl, e2⟩
    | panic v => exact ⟨_, _, _, o1, rfl, e2⟩
    | exit i =>
      have e2' : bc (Nat.beq i id) (k .normal fr1 H1 o1) (k (.exit i) fr1 H1 o1) = some r := e2
      simp only
      cases hb : Nat.beq i id with
      | true => rw [hb] at e2'; exact ⟨_, _, _, o1, rfl, e2'⟩
      | false => rw [hb] at e2'; exact ⟨_, _, _, o1, rfl, e2'⟩
  | loop a iha =>
    intro k fr H o r h
    obtain ⟨e, fr1, H1, o1, e1, e2⟩ := iha (loopP cl a k) fr H o r h
    simp only [codeA, e1]
    cases e with
    | normal =>
      obtain ⟨x, o2, hx, e3⟩ := hc _ _ _ _ e2
      cases x with
      | code e' fr' H' => exact ⟨e', fr', H', o2, hx, e3⟩
      | call => cases e3
      | dcall => cases e3
    | exit i => exact ⟨_, _, _, o1, rfl, e2⟩
    | ret => exact ⟨_, _, _, o1, rfl, e2⟩
    | panic v => exact ⟨_, _, _, o1, rfl, e2⟩
  | rangeFunc f ps a b _ _ =>
    intro k fr H o r h
    have h' : bc fr.rd none (ob (opdR E fr.t f) fun v => rangeP E cl ps a b k fr H o v) = some r := h
    rcases bc_some h' with ⟨_, h'⟩ | ⟨hrd, h1⟩
    · cases h'
    rw [opdR_eq] at h1
    obtain ⟨v, hv, h1⟩ := ob_some' h1
    simp only [codeA, hrd, cond_false, hv]
    cases v <;> try (cases h1; done)
    rename_i g first cap
    obtain ⟨fn, hfn, h2⟩ := ob_some' h1
    obtain ⟨x, o2, hx, h3⟩ := hc _ _ _ _ h2
    simp only [hfn, hx]
    cases x with
    | code => cases h3
    | dcall => cases h3
    | call y =>
      cases y with
      | pan => cases h3
      | ret v H' =>
        simp only [rangeResP] at h3
        dsimp only
        have hfr : ∀ l : List ADf, AFr.mk fr.n fr.t l fr.rd = { fr with df := l } := fun _ => rfl
        cases hg : H'.get (H.next + 1) with
        | none => rw [hg] at h3; cases h3
        | some o =>
          rw [hg] at h3
          cases o with
          | loop st pend n t p as bo d =>
            cases st <;> first
              | (cases h3; done)
              | (cases pend with
                | none => exact ⟨_, _, _, o2, rfl, by rw [hrd] at h3; exact h3⟩
                | some e =>
                  cases e with
                  | normal => cases h3
                  | exit i => exact ⟨_, _, _, o2, rfl, by rw [hrd] at h3; exact h3⟩
                  | ret => exact ⟨_, _, _, o2, rfl, by rw [hrd] at h3; exact h3⟩
                  | panic v => cases h3)
          | _ => cases h3
  | exit id => intro k fr H o r h; exact ⟨_, _, _, o, rfl, h⟩
  | scope c _ => intro k fr H o r h; cases h
  | label l => intro k fr H o r h; exact ⟨_, _, _, o, rfl, h⟩
  | goto l => intro k fr H o r h; cases h
  | ret => intro k fr H o r h; exact ⟨_, _, _, o, rfl, h⟩
  | refuse w => intro k fr H o r h; cases h

/-! ### Calls -/
def dcallResP (k : Bool → AHeap → Orc → Option α) : TRes → Orc → Option α
  | .dcall (.back taken H), o => k taken H o
  | _, _ => none
def leaveP (E : Env) (cl : PCl α) (rs : List ResultVar) (t : Tr AV) (k : TRes → Orc → Option α) (ds : List ADf) : Option AV → AHeap → Orc → Option α :=
  List.rec (motive := fun _ => Option AV → AHeap → Orc → Option α)
    (fun p H o => match p with
      | none => resL E t H rs fun l => k (.call (.ret (resV l) H)) o
      | some v => k (.call (.pan v H)) o)
    (fun d _ ih p H o => match d with
      | .mark id => (match H.get id with
        | some .dfr => ih p (H.kill id) o
        | _ => none)
      | .call f args => cl (.dcall f args p H) o (dcallResP fun taken H o => ih (bc taken none p) H o)) ds
theorem leaveP_some {E : Env} {cl : PCl α} {ih : Task → Option TRes} (hc : POk cl ih) {rs : List ResultVar} {t : Tr AV} {k : TRes → Orc → Option α} : ∀ {ds : List ADf} {p : Option AV} {H : AHeap} {o : Orc} {r : α}, leaveP E cl rs t k ds p H o = some r →
    ∃ x o', leaveA E ih rs t ds p H = some x ∧ k x o' = some r := by
  intro ds
  induction ds with
  | nil =>
    intro p H o r h
    cases p with
    | none =>
      obtain ⟨vs, hvs, h1⟩ := resL_some h
      exact ⟨_, o, by simp only [leaveA, hvs], h1⟩
    | some v => exact ⟨_, o, rfl, h⟩
  | cons d ds ihd =>
    intro p H o r h
    cases d with
    | mark id =>
      have h' : (match H.get id with
        | some .dfr => leaveP E cl rs t k ds p (H.kill id) o
        | _ => none) = some r := h
      simp only [leaveA]
      split at h'
      · rename_i hg
        rw [hg]
        exact ihd h'
      · cases h'
    | call f args =>
      have h' : cl (.dcall f args p H) o (dcallResP fun taken H o => leaveP E cl rs t k ds (bc taken none p) H o) = some r := h
      obtain ⟨x, o1, hx, h1⟩ := hc _ _ _ _ h'
      cases x with
      | code => cases h1
      | call => cases h1
      | dcall y =>
        obtain ⟨taken, H'⟩ := y
        obtain ⟨z, o2, hz, h2⟩ := ihd h1
        rw [bc_eq] at hz
        exact ⟨z, o2, by simp only [leaveA, hx]; exact hz, h2⟩
def retP (E : Env) (cl : PCl α) (rs : List ResultVar) (k : TRes → Orc → Option α) : PC α := fun e fr H o => AExit.rec (motive := fun _ => Option α) (leaveP E cl rs fr.t k fr.df none H o) (fun _ => none) (leaveP E cl rs fr.t k fr.df none H o) (fun v => leaveP E cl rs fr.t k fr.df (some v) H o) e
def endP (E : Env) (rs : List ResultVar) (taken : Bool) (k : TRes → Orc → Option α) : PC α := fun e fr H o => endT E rs taken (fun x => k x o) e fr H
def yieldEndP (id : Nat) (k : TRes → Orc → Option α) : PC α := fun e fr H o => yieldEnd id (fun x => k x o) e fr H
def yieldMidP (E : Env) (pn : Pin) (cl : PCl α) (id : Nat) (body : Code) (k : TRes → Orc → Option α) : PC α := fun e fr1 H1 o => match e with
  | .normal => (match H1.get id with
    | some (.loop .ready pend1 m1 u1 ps1 as1 bo1 d1) => codeP E pn cl body (yieldEndP id k) fr1 (H1.put id (.loop .busy pend1 m1 u1 ps1 as1 bo1 d1)) o
    | _ => none)
  | _ => none
def yieldP (E : Env) (pn : Pin) (cl : PCl α) (id : Nat) (args : List AV) (H : AHeap) (o : Orc) (k : TRes → Orc → Option α) : Option α := match H.get id with
  | some (.loop .ready _ n t ps assign body _) => ob (setParams n ps args t) fun t' => codeP E pn cl assign (yieldMidP E pn cl id body k) ⟨n, t', [], true⟩ H o
  | _ => none
theorem yieldP_some {E : Env} {pn : Pin} {cl : PCl α} {ih : Task → Option TRes} (hc : POk cl ih) {id : Nat} {args : List AV} {H : AHeap} {o : Orc} {k : TRes → Orc → Option α} {r : α} (h : yieldP E pn cl id args H o k = some r) : ∃ x o', stepA E ih (.yield id args H) = some x ∧ k x o' = some r := by
  unfold yieldP at h
  simp only [stepA]
  split at h
  case h_2 => cases h
  rename_i pend n t ps assign body d hg
  obtain ⟨t', ht, h1⟩ := ob_some' h
  obtain ⟨e, fr1, H1, o1, e1, h2⟩ := codeP_some hc _ _ _ _ _ _ h1
  simp only [hg, ht, e1]
  cases e <;> try (cases h2; done)
  simp only [yieldMidP] at h2
  dsimp only
  split at h2
  case h_2 => cases h2
  rename_i pend1 m1 u1 ps1 as1 bo1 d1 hg1
  obtain ⟨e2, fr2, H2, o2, e3, h3⟩ := codeP_some hc _ _ _ _ _ _ h2
  simp only [hg1, e3]
  unfold yieldEndP yieldEnd at h3
  split at h3
  case h_2 => cases h3
  rename_i st2 pend2 m2 u2 ps2 as2 bo2 d2 hg2
  simp only [hg2]
  cases e2 with
  | normal => exact ⟨_, o2, rfl, h3⟩
  | exit i => exact ⟨_, o2, rfl, h3⟩
  | ret => exact ⟨_, o2, rfl, h3⟩
  | panic v => cases h3
def dcallP (E : Env) (pn : Pin) (cl : PCl α) (f : FuncId) (args : List AV) (pan : Option AV) (H : AHeap) (o : Orc) (k : TRes → Orc → Option α) : Option α := ob (E.fn f) fun fn => match recFirst fn.body with
  | some (op, rest) => codeP E pn cl rest (endP E fn.results pan.isSome k) ((newFr fn args).put op.dst (recOf pan)) H o
  | none => codeP E pn cl fn.body (endP E fn.results false k) (newFr fn args) H o
def callP1 (E : Env) (pn : Pin) (cl : PCl α) (f : FuncId) (args : List AV) (H : AHeap) (o : Orc) (k : TRes → Orc → Option α) : Option α :=
  Option.rec (motive := fun _ => Option α) (ob (E.sm f args H) fun x => k (.call (.ret x.1 x.2)) o) (fun fn => codeP E pn cl fn.body (retP E cl fn.results k) (newFr fn args) H o) (E.fn f)
def stepP (E : Env) (pn : Pin) (cl : PCl α) : PCl α := fun t o k => match t with
  | .code c fr H => codeP E pn cl c (fun e fr H o => k (.code e fr H) o) fr H o
  | .call f args H => callP1 E pn cl f args H o k
  | .dcall f args pan H => dcallP E pn cl f args pan H o k
  | .yield id args H => yieldP E pn cl id args H o k
theorem stepP_some {E : Env} {pn : Pin} {cl : PCl α} {ih : Task → Option TRes} (hc : POk cl ih) : POk (stepP E pn cl) (stepA E ih) := by
  intro t o k r h
  cases t with
  | code c fr H =>
    obtain ⟨e, fr', H', o', e1, e2⟩ := codeP_some hc _ _ _ _ _ _ h
    exact ⟨_, o', e1, e2⟩
  | yield id args H => exact yieldP_some hc h
  | call f args H =>
    have h' : Option.rec (motive := fun _ => Option α) (ob (E.sm f args H) fun x => k (.call (.ret x.1 x.2)) o) (fun fn => codeP E pn cl fn.body (retP E cl fn.results k) (newFr fn args) H o) (E.fn f) = some r := h
    simp only [stepA]
    cases hf : E.fn f with
    | none =>
      rw [hf] at h'
      obtain ⟨x, hx, h1⟩ := ob_some' h'
      exact ⟨_, o, by simp only [hx], h1⟩
    | some fn =>
      rw [hf] at h'
      have h2 : codeP E pn cl fn.body (retP E cl fn.results k) (newFr fn args) H o = some r := h'
      obtain ⟨e, fr', H', o1, e1, e2⟩ := codeP_some hc _ _ _ _ _ _ h2
      simp only [e1]
      cases e with
      | normal => exact leaveP_some hc e2
      | ret => exact leaveP_some hc e2
      | panic v => exact leaveP_some hc e2
      | exit i => cases e2
  | dcall f args pan H =>
    obtain ⟨fn, hf, h1⟩ := ob_some' h
    simp only [stepA, hf]
    split at h1
    · rename_i op rest hr
      obtain ⟨e, fr', H', o1, e1, e2⟩ := codeP_some hc _ _ _ _ _ _ h1
      simp only [hr, e1]
      obtain ⟨x, hx, h2⟩ := endT_some (k := fun x => k x o1) e2
      exact ⟨x, o1, hx, h2⟩
    · rename_i hr
      obtain ⟨e, fr', H', o1, e1, e2⟩ := codeP_some hc _ _ _ _ _ _ h1
      simp only [hr, e1]
      obtain ⟨x, hx, h2⟩ := endT_some (k := fun x => k x o1) e2
      exact ⟨x, o1, hx, h2⟩
def callPP (E : Env) (pn : Pin) (n : Nat) : PCl α := Nat.rec (motive := fun _ => PCl α) (fun _ _ _ => none) (fun _ cl => stepP E pn cl) n
theorem callPP_ok (E : Env) (pn : Pin) : ∀ n, POk (callPP (α := α) E pn n) (run E n)
  | 0 => fun t o k r h => by cases h
  | n + 1 => stepP_some (callPP_ok E pn n)
def callP (E : Env) (n : Nat) : PCl α := callPP E noPin n
theorem callP_ok (E : Env) (n : Nat) : POk (callP (α := α) E n) (run E n) := callPP_ok E noPin n
end
end Go.Vai
