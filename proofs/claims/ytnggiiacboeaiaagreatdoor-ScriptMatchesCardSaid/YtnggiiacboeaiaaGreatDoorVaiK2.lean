/- The tree form: rows of operations, regions whose order is open, code, calls. -/
import Derived.Test.YtnggiiacboeaiaaGreatDoorVaiK
namespace Go.Vai
noncomputable section

theorem Tr.setF_same {β : Type} : ∀ (f : Nat) (t : Tr β) (i : Nat) (x : β), i + 1 < 2 ^ f → t.get i = some x → Tr.setF f t i (some x) = t := by
  intro f
  induction f with
  | zero => intro t i x h; omega
  | succ f ih =>
    intro t i x h hg
    cases t with
    | nil => simp [Tr.get_nil] at hg
    | node v l r =>
      cases i with
      | zero => rw [Tr.get_zero] at hg; rw [Tr.setF_tz, hg]
      | succ i =>
        have hi : i / 2 + 1 < 2 ^ f := by rw [Nat.pow_succ] at h; omega
        rw [Tr.get_succ] at hg
        rw [Tr.setF_ts]
        cases hb : Nat.beq (i % 2) 0 with
        | true => rw [hb] at hg; simp only [cond_true] at hg ⊢; rw [ih l _ x hi hg]
        | false => rw [hb] at hg; simp only [cond_false] at hg ⊢; rw [ih r _ x hi hg]
theorem Tr.set_same {β : Type} {t : Tr β} {i : Nat} {x : β} (h : i < 1000001) (hg : t.get i = some x) : t.set i x = t := Tr.setF_same 48 t i x (by omega) hg

section
variable {α : Type}
abbrev KC (α : Type) := AExit → AFr → AHeap → Option α
abbrev Cl (α : Type) := FuncId → List AV → AHeap → (AV → AHeap → Option α) → Option α
/-- What a call's tree says, the interpreter answers. -/
def ClOk (cl : Cl α) (ih : Task → Option TRes) : Prop := ∀ f args H k r, cl f args H k = some r → ∃ v H', ih (.call f args H) = some (.call (.ret v H')) ∧ k v H' = some r

/-- A truth value is known from here on. -/
def fixB (fr : AFr) (d : Nat) (b : Bool) : AFr := ⟨fr.n, fr.t.set d (.bool b), fr.df, fr.rd⟩
theorem fixB_eq {fr : AFr} {d : Nat} {b : Bool} (h : d < 1000001) (hg : fr.t.get d = some (.bool b)) : fixB fr d b = fr := by
  unfold fixB
  rw [Tr.set_same h hg]

def wantV (fr : AFr) (d : Nat) (want : Bool) (kt kf : AFr → Option α) : AV → Option α
  | .bool b => bc (Nat.blt d 1000001) (bc b (bc want (kt (fixB fr d true)) (kf (fixB fr d true))) (bc want (kf (fixB fr d false)) (kt (fixB fr d false)))) none
  | .tup _ => kf fr
  | _ => none
def wantGo (all : Array Oper) (fr : AFr) (kt kf : AFr → Option α) : Option (Nat × Bool) → Option α
  | none => kt fr
  | some (j, want) => match (all[j]?).bind (·.dst) with
    | none => kf fr
    | some d => ob (fr.t.get d) fun v => wantV fr d want kt kf v
theorem wantGo_some {all : Array Oper} {fr : AFr} {kt kf : AFr → Option α} {o : Oper} {r : α} (h : wantGo all fr kt kf o.guard = some r) : (wantedA all fr.t o = some true ∧ kt fr = some r) ∨ (wantedA all fr.t o = some false ∧ kf fr = some r) := by
  unfold wantedA
  cases hg : o.guard with
  | none => rw [hg] at h; exact .inl ⟨rfl, h⟩
  | some g =>
    obtain ⟨j, want⟩ := g
    rw [hg] at h
    simp only [wantGo] at h ⊢
    cases hd : (all[j]?).bind (·.dst) with
    | none => rw [hd] at h; exact .inr ⟨rfl, h⟩
    | some d =>
      rw [hd] at h
      simp only at h ⊢
      obtain ⟨v, hv, h⟩ := ob_some' h
      rw [hv]
      cases v <;> try (cases h; done)
      case bool b =>
        simp only [wantV] at h
        obtain ⟨hlt, h⟩ := bc_none h
        rw [Nat.blt_eq] at hlt
        have e := fixB_eq hlt hv
        cases b with
        | true =>
          simp only [bc_true, e] at h
          cases want with
          | true => exact .inl ⟨rfl, h⟩
          | false => exact .inr ⟨rfl, h⟩
        | false =>
          simp only [bc_false, e] at h
          cases want with
          | true => exact .inr ⟨rfl, h⟩
          | false => exact .inl ⟨rfl, h⟩
      case tup l => exact .inr ⟨rfl, h⟩

def resKK (cl : Cl α) (o : Oper) (fr : AFr) (H : AHeap) (k : AFr → AHeap → Option α) : ARes → Option α
  | .val v H => k (putR fr o.dst v) H
  | .skip H => k (putR fr o.dst undefA) H
  | .call f args => cl f args H fun v H => k (putR fr o.dst v) H
  | _ => none
def opKK (E : Env) (cl : Cl α) (all : Array Oper) (o : Oper) (k : AFr → AHeap → Option α) : AFr → AHeap → Option α := fun fr H =>
  wantGo all fr (fun fr => kOp o E H fr.t fun x => resKK cl o fr H k x) (fun fr => k (putR fr o.dst undefA) H) o.guard
def opsKK (E : Env) (cl : Cl α) (all : Array Oper) (k : AFr → AHeap → Option α) (l : List Oper) : AFr → AHeap → Option α :=
  List.rec (motive := fun _ => AFr → AHeap → Option α) k (fun o _ k => opKK E cl all o k) l

/-- What an operation does, with its call. -/
theorem resKK_some {cl : Cl α} {ih : Task → Option TRes} (hc : ClOk cl ih) {o : Oper} {fr : AFr} {H : AHeap} {k : AFr → AHeap → Option α} {x : ARes} {r : α} (h : resKK cl o fr H k x = some r) :
    ∃ y H', (callsA ih H x = some (.val y H') ∨ (callsA ih H x = some (.skip H') ∧ y = undefA)) ∧ k (fr.put o.dst y) H' = some r := by
  cases x <;> try (cases h; done)
  case val v H1 => exact ⟨v, H1, .inl rfl, by simpa [resKK, putR_eq] using h⟩
  case skip H1 => exact ⟨undefA, H1, .inr ⟨rfl, rfl⟩, by simpa [resKK, putR_eq] using h⟩
  case call f args =>
    simp only [resKK] at h
    obtain ⟨v, H1, h1, h2⟩ := hc _ _ _ _ _ h
    exact ⟨v, H1, .inl (by simp [callsA, h1]), by simpa [putR_eq] using h2⟩

theorem opsKK_some {E : Env} {cl : Cl α} {ih : Task → Option TRes} (hc : ClOk cl ih) {all : Array Oper} {k : AFr → AHeap → Option α} : ∀ {l : List Oper} {fr : AFr} {H : AHeap} {r : α}, opsKK E cl all k l fr H = some r →
    ∃ fr' H', opsA E ih all l fr H = some (.code .normal fr' H') ∧ k fr' H' = some r := by
  intro l
  induction l with
  | nil => intro fr H r h; exact ⟨fr, H, rfl, h⟩
  | cons o l ihl =>
    intro fr H r h
    have h' : opKK E cl all o (opsKK E cl all k l) fr H = some r := h
    simp only [opsA]
    rcases wantGo_some h' with ⟨hw, h1⟩ | ⟨hw, h1⟩
    · obtain ⟨x, hx, h2⟩ := kOp_some h1
      obtain ⟨y, H1, hy, h3⟩ := resKK_some hc h2
      obtain ⟨fr', H', e1, e2⟩ := ihl h3
      refine ⟨fr', H', ?_, e2⟩
      simp only [hw, hx]
      rcases hy with hy | ⟨hy, rfl⟩
      · simp only [hy]; exact e1
      · simp only [hy]; exact e1
    · rw [putR_eq] at h1
      obtain ⟨fr', H', e1, e2⟩ := ihl h1
      exact ⟨fr', H', by simp only [hw]; exact e1, e2⟩

/-! ### A region whose order is open: quiet and loud ones all stand in one row -/
def allIn (m : Nat) (l : List Nat) : Bool := List.rec (motive := fun _ => Bool) true (fun i _ b => bc (bitIn m i) b false) l
theorem allIn_some {m : Nat} : ∀ {l : List Nat}, allIn m l = true → ∀ i ∈ l, bitIn m i = true := by
  intro l
  induction l with
  | nil => intro _ i hi; cases hi
  | cons j l ih =>
    intro h i hi
    have h' : bc (bitIn m j) (allIn m l) false = true := h
    rw [bc_eq] at h'
    cases hb : bitIn m j with
    | false => rw [hb] at h'; cases h'
    | true =>
      rw [hb] at h'
      simp only [List.mem_cons] at hi
      rcases hi with rfl | hi
      · exact hb
      · exact ih h' i hi
abbrev DK (α : Type) := Nat → List QRec → List ERec → AFr → AHeap → Option α
/-- A quiet operation, run once more, gives the same. -/
def sameV_w (x : ARes) (v : AV) : Bool := match x with
  | .val u _ => AV.eqb u v
  | _ => false
def memK (E : Env) (o : Oper) (fr : Tr AV) (v : AV) (H : AHeap) (rest : Option α) : Option α := kOp o E H fr fun x => bc (sameV_w x v) rest none
def allE (E : Env) (o : Oper) (fr : Tr AV) (v : AV) (m : Nat) (rest : Option α) (es : List ERec) : Option α := List.rec (motive := fun _ => Option α) rest (fun e _ ih => bc (bitIn m e.j) ih (memK E o fr v e.H ih)) es
def allQ (E : Env) (H : AHeap) (m : Nat) (rest : Option α) (qs : List QRec) : Option α := List.rec (motive := fun _ => Option α) rest (fun q _ ih => bc (bitIn m q.i) ih (memK E q.o q.fr q.v H ih)) qs
theorem memK_some {E : Env} {o : Oper} {fr : Tr AV} {v : AV} {H : AHeap} {rest : Option α} {r : α} (i : Nat) (h : memK E o fr v H rest = some r) : sameAt E H ⟨i, o, fr, v⟩ = true ∧ rest = some r := by
  obtain ⟨x, hx, h1⟩ := kOp_some h
  obtain ⟨h2, h3⟩ := bc_none h1
  unfold sameV_w at h2
  split at h2
  · rename_i u H1
    exact ⟨by simp only [sameAt, quietA, hx]; exact h2, h3⟩
  · cases h2
theorem allE_some {E : Env} {o : Oper} {fr : Tr AV} {v : AV} {m : Nat} {rest : Option α} {r : α} (i : Nat) : ∀ {es : List ERec}, allE E o fr v m rest es = some r → stableE E ⟨i, o, fr, v⟩ m es = true ∧ rest = some r := by
  intro es
  induction es with
  | nil => intro h; exact ⟨rfl, h⟩
  | cons e es ih =>
    intro h
    have h' : bc (bitIn m e.j) (allE E o fr v m rest es) (memK E o fr v e.H (allE E o fr v m rest es)) = some r := h
    rcases bc_some h' with ⟨hb, h1⟩ | ⟨_, h1⟩
    · obtain ⟨a, b⟩ := ih h1
      exact ⟨by simp only [stableE, hb, a, Bool.true_or, Bool.and_self], b⟩
    · obtain ⟨c, h2⟩ := memK_some i h1
      obtain ⟨a, b⟩ := ih h2
      exact ⟨by simp only [stableE, c, a, Bool.or_true, Bool.and_self], b⟩
theorem allQ_some {E : Env} {H : AHeap} {m : Nat} {rest : Option α} {r : α} : ∀ {qs : List QRec}, allQ E H m rest qs = some r → stableQ E H m qs = true ∧ rest = some r := by
  intro qs
  induction qs with
  | nil => intro h; exact ⟨rfl, h⟩
  | cons q qs ih =>
    intro h
    have h' : bc (bitIn m q.i) (allQ E H m rest qs) (memK E q.o q.fr q.v H (allQ E H m rest qs)) = some r := h
    rcases bc_some h' with ⟨hb, h1⟩ | ⟨_, h1⟩
    · obtain ⟨a, b⟩ := ih h1
      exact ⟨by simp only [stableQ, hb, a, Bool.true_or, Bool.and_self], b⟩
    · obtain ⟨c, h2⟩ := memK_some q.i h1
      obtain ⟨a, b⟩ := ih h2
      exact ⟨by simp only [stableQ, c, a, Bool.or_true, Bool.and_self], b⟩
def dRes (E : Env) (cl : Cl α) (o : Oper) (i m : Nat) (qs : List QRec) (es : List ERec) (fr : AFr) (H : AHeap) (q : Bool) (k : DK α) (x : ARes) : Option α :=
  bc q (match x with
      | .val v H' => allE E o fr.t v m (k (i + 1) (⟨i, o, fr.t, v⟩ :: qs) es (putR fr o.dst v) H') es
      | _ => none)
    (resKK cl o fr H (fun fr H' => allQ E H' m (k (i + 1) qs (⟨i, H⟩ :: es) fr H') qs) x)
def dOpK (E : Env) (cl : Cl α) (an : Tr Nat) (all : Array Oper) (o : Oper) (k : DK α) : DK α := fun i qs es fr H =>
  wantGo all fr (fun fr => ob (an.get i) fun m => kOp o E H fr.t fun x => dRes E cl o i m qs es fr H (quietOp E o.op) k x) (fun fr => k (i + 1) qs es (putR fr o.dst undefA) H) o.guard
def opsDK (E : Env) (cl : Cl α) (an : Tr Nat) (all : Array Oper) (k : AFr → AHeap → Option α) (l : List Oper) : DK α :=
  List.rec (motive := fun _ => DK α) (fun _ _ _ fr H => k fr H) (fun o _ k => dOpK E cl an all o k) l

theorem opsDK_some {E : Env} {cl : Cl α} {ih : Task → Option TRes} (hc : ClOk cl ih) {an : Tr Nat} {all : Array Oper} {fr0 : AFr} {k : AFr → AHeap → Option α} : ∀ {l : List Oper} {i : Nat} {qs : List QRec} {es : List ERec} {fr : AFr} {H : AHeap} {r : α},
    opsDK E cl an all k l i qs es fr H = some r → ∃ fr' H', opsD E ih all an fr0 l i qs es fr H = some (.code .normal fr' H') ∧ k fr' H' = some r := by
  intro l
  induction l with
  | nil => intro i qs es fr H r h; exact ⟨fr, H, rfl, h⟩
  | cons o l ihl =>
    intro i qs es fr H r h
    have h' : dOpK E cl an all o (opsDK E cl an all k l) i qs es fr H = some r := h
    simp only [opsD]
    rcases wantGo_some h' with ⟨hw, h1⟩ | ⟨hw, h1⟩
    · obtain ⟨m, hm, h2⟩ := ob_some' h1
      obtain ⟨x, hx, h3⟩ := kOp_some h2
      unfold dRes at h3
      cases hq : quietOp E o.op with
      | true =>
        rw [hq, bc_true] at h3
        cases x <;> try (cases h3; done)
        rename_i v H1
        obtain ⟨ha, h4⟩ := allE_some i h3
        rw [putR_eq] at h4
        have hH := quiet_same hq hx
        obtain ⟨fr', H', e1, e2⟩ := ihl (qs := ⟨i, o, fr.t, v⟩ :: qs) (es := es) h4
        refine ⟨fr', H', ?_, e2⟩
        simp only [hw, hm, hx, cond_true, ha]
        rw [hH] at e1
        exact e1
      | false =>
        rw [hq, bc_false] at h3
        obtain ⟨y, H1, hy, h5⟩ := resKK_some hc h3
        obtain ⟨ha, h6⟩ := allQ_some h5
        obtain ⟨fr', H', e1, e2⟩ := ihl (qs := qs) (es := ⟨i, H⟩ :: es) h6
        refine ⟨fr', H', ?_, e2⟩
        simp only [hw, hm, hx, cond_false]
        rcases hy with hy | ⟨hy, rfl⟩
        · simp only [hy, ha, cond_true]; exact e1
        · simp only [hy, ha, cond_true]; exact e1
    · rw [putR_eq] at h1
      obtain ⟨fr', H', e1, e2⟩ := ihl h1
      exact ⟨fr', H', by simp only [hw]; exact e1, e2⟩

def regKK (E : Env) (cl : Cl α) (ops : Array Oper) (draw : Bool) (k : AFr → AHeap → Option α) : AFr → AHeap → Option α := fun fr H =>
  bc draw (ob (ancs ops.toList 0 .nil) fun an => bc (allOk E an ops.toList && (Nat.ble fr.n 1000000 && Nat.ble ops.size 1000000)) (opsDK E cl an ops k ops.toList 0 [] [] fr H) none) (opsKK E cl ops k ops.toList fr H)
theorem regKK_some {E : Env} {cl : Cl α} {ih : Task → Option TRes} (hc : ClOk cl ih) {ops : Array Oper} {draw : Bool} {k : AFr → AHeap → Option α} {fr : AFr} {H : AHeap} {r : α} (h : regKK E cl ops draw k fr H = some r) :
    ∃ fr' H', regionA E ih ops draw fr H = some (.code .normal fr' H') ∧ k fr' H' = some r := by
  unfold regKK at h
  unfold regionA
  cases draw with
  | false => rw [bc_false] at h; exact opsKK_some hc h
  | true =>
    rw [bc_true] at h
    obtain ⟨an, han, h1⟩ := ob_some' h
    obtain ⟨hb, h2⟩ := bc_none h1
    obtain ⟨fr', H', e1, e2⟩ := opsDK_some (qs := []) (es := []) (fr0 := fr) hc h2
    refine ⟨fr', H', ?_, e2⟩
    simp only [cond_true, han, hb]
    exact e1

/-! ### Code -/
abbrev CK' (α : Type) := KC α → AFr → AHeap → Option α
def seqKK (b : CK' α) (k : KC α) : KC α := fun e fr H => AExit.rec (motive := fun _ => Option α) (b k fr H) (fun id => k (.exit id) fr H) (k .ret fr H) (fun v => k (.panic v) fr H) e
def condV (a b : CK' α) (k : KC α) (fr : AFr) (H : AHeap) : AV → Option α
  | .bool c => bc c (a k fr H) (b k fr H)
  | _ => none
def blockKK (id : Nat) (k : KC α) : KC α := fun e fr H => AExit.rec (motive := fun _ => Option α) (k .normal fr H) (fun i => bc (Nat.beq i id) (k .normal fr H) (k (.exit i) fr H)) (k .ret fr H) (fun v => k (.panic v) fr H) e
def codeKK (E : Env) (cl : Cl α) (c : Code) : CK' α :=
  Code.rec (motive := fun _ => CK' α) (fun k fr H => k .normal fr H) (fun _ ops draw k => regKK E cl ops draw (k .normal)) (fun _ _ a b k => a (seqKK b k)) (fun c _ _ a b k fr H => ob (opdR E fr.t c) fun v => condV a b k fr H v) (fun id _ a k => a (blockKK id k)) (fun _ _ _ _ _ => none)
    (fun _ _ _ _ _ _ _ _ _ => none) (fun id k fr H => k (.exit id) fr H) (fun _ _ _ _ _ => none) (fun _ k fr H => k .normal fr H) (fun _ _ _ _ => none) (fun k fr H => k .ret fr H) (fun _ _ _ _ => none) c

theorem codeKK_some {E : Env} {cl : Cl α} {ih : Task → Option TRes} (hc : ClOk cl ih) : ∀ (c : Code) (k : KC α) (fr : AFr) (H : AHeap) (r : α), codeKK E cl c k fr H = some r → ∃ e fr' H', codeA E ih c fr H = some (.code e fr' H') ∧ k e fr' H' = some r := by
  intro c
  induction c with
  | skip => intro k fr H r h; exact ⟨_, _, _, rfl, h⟩
  | region id ops draw =>
    intro k fr H r h
    obtain ⟨fr', H', e1, e2⟩ := regKK_some hc h
    exact ⟨_, fr', H', e1, e2⟩
  | seq a b iha ihb =>
    intro k fr H r h
    obtain ⟨e, fr1, H1, e1, e2⟩ := iha (seqKK (codeKK E cl b) k) fr H r h
    simp only [codeA, e1]
    cases e with
    | normal => exact ihb k fr1 H1 r e2
    | exit i => exact ⟨_, _, _, rfl, e2⟩
    | ret => exact ⟨_, _, _, rfl, e2⟩
    | panic v => exact ⟨_, _, _, rfl, e2⟩
  | cond c a b iha ihb =>
    intro k fr H r h
    have h' : (ob (opdR E fr.t c) fun v => condV (codeKK E cl a) (codeKK E cl b) k fr H v) = some r := h
    obtain ⟨v, hv, h1⟩ := ob_some' h'
    rw [opdR_eq] at hv
    simp only [codeA, hv]
    cases v <;> try (cases h1; done)
    rename_i t
    simp only [condV] at h1
    cases t with
    | true => exact iha k fr H r h1
    | false => exact ihb k fr H r h1
  | block id a iha =>
    intro k fr H r h
    obtain ⟨e, fr1, H1, e1, e2⟩ := iha (blockKK id k) fr H r h
    simp only [codeA, e1]
    cases e with
    | normal => exact ⟨_, _, _, rfl, e2⟩
    | ret => exact ⟨_, _, _, rfl, e2⟩
    | panic v => exact ⟨_, _, _, rfl, e2⟩
    | exit i =>
      have e2' : bc (Nat.beq i id) (k .normal fr1 H1) (k (.exit i) fr1 H1) = some r := e2
      simp only
      cases hb : Nat.beq i id with
      | true => rw [hb] at e2'; exact ⟨_, _, _, rfl, e2'⟩
      | false => rw [hb] at e2'; exact ⟨_, _, _, rfl, e2'⟩
  | loop a _ => intro k fr H r h; cases h
  | rangeFunc f ps a b _ _ => intro k fr H r h; cases h
  | exit id => intro k fr H r h; exact ⟨_, _, _, rfl, h⟩
  | scope c _ => intro k fr H r h; cases h
  | label l => intro k fr H r h; exact ⟨_, _, _, rfl, h⟩
  | goto l => intro k fr H r h; cases h
  | ret => intro k fr H r h; exact ⟨_, _, _, rfl, h⟩
  | refuse w => intro k fr H r h; cases h

/-! ### Calls -/
def resL (E : Env) (fr : Tr AV) (H : AHeap) (l : List ResultVar) : (List AV → Option α) → Option α :=
  List.rec (motive := fun _ => (List AV → Option α) → Option α) (fun k => k []) (fun x _ ih k => match x with
    | .tmp t => ob (fr.get t) fun v => ih fun l => k (v :: l)
    | .cell a t => ob (fr.get a) fun p => loadKK E H t (fun v => ih fun l => k (v :: l)) p) l
theorem resL_some {E : Env} {fr : Tr AV} {H : AHeap} : ∀ {l : List ResultVar} {k : List AV → Option α} {r : α}, resL E fr H l k = some r → ∃ vs, resA E fr H l = some vs ∧ k vs = some r := by
  intro l
  induction l with
  | nil => intro k r h; exact ⟨[], rfl, h⟩
  | cons x l ihl =>
    intro k r h
    cases x with
    | tmp t =>
      have h' : (ob (fr.get t) fun v => resL E fr H l fun l => k (v :: l)) = some r := h
      obtain ⟨v, hv, h1⟩ := ob_some' h'
      obtain ⟨vs, hvs, h2⟩ := ihl h1
      exact ⟨v :: vs, by simp [resA, hv, hvs], h2⟩
    | cell a t =>
      have h' : (ob (fr.get a) fun p => loadKK E H t (fun v => resL E fr H l fun l => k (v :: l)) p) = some r := h
      obtain ⟨p, hp, h1⟩ := ob_some' h'
      obtain ⟨v, hv, h2⟩ := loadKK_some h1
      obtain ⟨vs, hvs, h3⟩ := ihl h2
      exact ⟨v :: vs, by simp [resA, hp, hv, hvs], h3⟩

def retV (E : Env) (rs : List ResultVar) (k : AV → AHeap → Option α) (fr : AFr) (H : AHeap) : Option α :=
  match fr.df with
  | [] => resL E fr.t H rs fun l => k (resV l) H
  | _ => none
def retK (E : Env) (rs : List ResultVar) (k : AV → AHeap → Option α) : KC α := fun e fr H => AExit.rec (motive := fun _ => Option α) (retV E rs k fr H) (fun _ => none) (retV E rs k fr H) (fun _ => none) e
theorem retV_some {E : Env} {ih : Task → Option TRes} {rs : List ResultVar} {k : AV → AHeap → Option α} {fr : AFr} {H : AHeap} {r : α} (h : retV E rs k fr H = some r) : ∃ v, leaveA E ih rs fr.t fr.df none H = some (.call (.ret v H)) ∧ k v H = some r := by
  unfold retV at h
  split at h
  case h_2 => cases h
  rename_i hd
  obtain ⟨vs, hvs, h1⟩ := resL_some h
  exact ⟨resV vs, by simp [hd, leaveA, hvs], h1⟩
def smKK (E : Env) (f : FuncId) (args : List AV) (H : AHeap) (k : AV → AHeap → Option α) : Option α := ob (E.sm f args H) fun x => k x.1 x.2
def callKK (E : Env) (d : Nat) : Cl α :=
  Nat.rec (motive := fun _ => Cl α) (fun f args H k => Option.rec (motive := fun _ => Option α) (smKK E f args H k) (fun _ => none) (E.fn f))
    (fun _ cl f args H k => Option.rec (motive := fun _ => Option α) (smKK E f args H k) (fun fn => codeKK E cl fn.body (retK E fn.results k) (newFr fn args) H) (E.fn f)) d
theorem callKK_ok (E : Env) (n : Nat) : ∀ d, ClOk (callKK (α := α) E d) (run E (n + d + 1)) := by
  intro d
  have sm : ∀ (m : Nat) {f : FuncId} {args : List AV} {H : AHeap} {k : AV → AHeap → Option α} {r : α}, E.fn f = none → smKK E f args H k = some r → ∃ v H', run E (m + 1) (.call f args H) = some (.call (.ret v H')) ∧ k v H' = some r := by
    intro m f args H k r hf h
    obtain ⟨x, hx, h1⟩ := ob_some' h
    refine ⟨x.1, x.2, ?_, h1⟩
    show stepA E (run E m) (.call f args H) = _
    simp only [stepA, hf, hx]
  induction d with
  | zero =>
    intro f args H k r h
    have h' : Option.rec (motive := fun _ => Option α) (smKK E f args H k) (fun _ => none) (E.fn f) = some r := h
    cases hf : E.fn f with
    | none => rw [hf] at h'; exact sm _ hf h'
    | some fn => rw [hf] at h'; cases h'
  | succ d ihd =>
    intro f args H k r h
    have h' : Option.rec (motive := fun _ => Option α) (smKK E f args H k) (fun fn => codeKK E (callKK E d) fn.body (retK E fn.results k) (newFr fn args) H) (E.fn f) = some r := h
    cases hf : E.fn f with
    | none => rw [hf] at h'; exact sm _ hf h'
    | some fn =>
      rw [hf] at h'
      have h2 : codeKK E (callKK E d) fn.body (retK E fn.results k) (newFr fn args) H = some r := h'
      obtain ⟨e, fr', H', e1, e2⟩ := codeKK_some ihd _ _ _ _ _ h2
      have go : retV E fn.results k fr' H' = some r → (e = .normal ∨ e = .ret) → ∃ v H', run E (n + (d + 1) + 1) (.call f args H) = some (.call (.ret v H')) ∧ k v H' = some r := by
        intro hr he
        obtain ⟨v, hl, hk⟩ := retV_some (ih := run E (n + d + 1)) hr
        refine ⟨v, H', ?_, hk⟩
        show stepA E (run E (n + d + 1)) (.call f args H) = _
        simp only [stepA, hf, e1]
        rcases he with rfl | rfl <;> exact hl
      cases e with
      | normal => exact go e2 (.inl rfl)
      | ret => exact go e2 (.inr rfl)
      | exit i => cases e2
      | panic v => cases e2
end
end
end Go.Vai
