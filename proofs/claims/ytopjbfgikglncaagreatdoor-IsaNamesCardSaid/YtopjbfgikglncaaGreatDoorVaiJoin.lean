/- A call that leaves nothing behind: run by itself, all that it finds frozen; what comes out is a plain value, whatever the order of the maps that it goes over. -/
import Derived.Test.YtopjbfgikglncaaGreatDoorVaiN
import Derived.Test.YtopjbfgikglncaaGreatDoorVaiClose
namespace Go.Vai
noncomputable section
def viewO : AObj → Option AObj
  | .cells n t e g fz _ mk => some (.cells n t e g fz true mk)
  | .mp es c _ => some (.mp es c true)
  | _ => none
def viewV (o : Option AObj) : Option AObj := Option.rec (motive := fun _ => Option AObj) none viewO o
def viewT (t : Tr AObj) : Tr AObj := Tr.rec (motive := fun _ => Tr AObj) .nil (fun v _ _ l r => .node (viewV v) l r) t
theorem viewT_get : ∀ (t : Tr AObj) (i : Nat), (viewT t).get i = viewV (t.get i)
  | .nil, i => by simp [viewT, Tr.get_nil, viewV]
  | .node v l r, 0 => rfl
  | .node v l r, i + 1 => by
    have e : viewT (.node v l r) = .node (viewV v) (viewT l) (viewT r) := rfl
    rw [e, Tr.get_succ, Tr.get_succ]
    cases Nat.beq (i % 2) 0 with
    | true => exact viewT_get l _
    | false => exact viewT_get r _
def viewH (H : AHeap) : AHeap := ⟨viewT H.objs, H.next⟩
theorem viewH_get {H : AHeap} {id : Nat} {o : AObj} (h : (viewH H).get id = some o) : ∃ p, H.get id = some p ∧ viewO p = some o := by
  have e : (viewT H.objs).get id = some o := h
  rw [viewT_get] at e
  cases hp : H.objs.get id with
  | none => rw [hp] at e; cases e
  | some p => rw [hp] at e; exact ⟨p, hp, e⟩
theorem viewO_ro {p o : AObj} (h : viewO p = some o) : o.isRo = true := by
  cases p <;> simp only [viewO] at h <;> first | (cases h; done) | (simp only [Option.some.injEq] at h; subst h; rfl)
section
variable {P : Program} {M : List MEnt} {H : AHeap} {w : World} {gl : List (Nat × List AV)}
theorem viewO_rel {m : MEnt} {p o : AObj} (h : viewO p = some o) (r : ORel M m w p) : ORel M m w o := by
  cases p <;> simp only [viewO] at h <;> first | (cases h; done) | skip
  case cells n t e g fz ro mk =>
    simp only [Option.some.injEq] at h; subst h
    obtain ⟨cur, e', lo, hi, h1, h2, h3, h4, h5, h6, h7⟩ := r
    exact ⟨cur, e', lo, hi, h1, (fun e => by cases e), h3, h4, (fun e => by cases e), (fun e => by cases e), h7⟩
  case mp es c q =>
    simp only [Option.some.injEq] at h; subst h
    exact r
theorem view_rel (hr : HRel M H w) : HRel M (viewH H) w where
  len := hr.len
  obj := fun id o h => by
    obtain ⟨p, h1, h2⟩ := viewH_get h
    obtain ⟨m, hm, r⟩ := hr.obj id p h1
    exact ⟨m, hm, viewO_rel h2 r⟩
  inj := fun i j o p m k hi hj _ _ _ _ => by
    obtain ⟨_, _, h1⟩ := viewH_get hi
    obtain ⟨_, _, h2⟩ := viewH_get hj
    exact ⟨viewO_ro h1, viewO_ro h2⟩
theorem view_wr (b : Nat) : ¬ Wr M (viewH H) b := fun ⟨id, o, m, e, r, _⟩ => by
  obtain ⟨_, _, h⟩ := viewH_get e
  rw [viewO_ro h] at r; cases r
def jK : TRes → Orc → Option AV
  | .call (.ret v _), _ => rnV 0 [] v
  | _, _ => none
def joinSm (E : Env) (n : Nat) (js : Nat → Bool) : Sm := fun f args H => bc (js f) (ob (callN E AV.eqb n (.call f args (viewH H)) [] jK) fun u => some (u, H)) none
theorem join_ok {E : Env} {n : Nat} {js : Nat → Bool} (hng : E.ng = 0) (hE : ∀ w, GlobOk gl w → EnvOk E P (Kept gl w)) : SmOk P gl (joinSm E n js) := by
  intro f args H v H' M w cargs h hw hr ha
  obtain ⟨_, h⟩ := bc_none h
  obtain ⟨u, hu, h⟩ := ob_some' h
  simp only [Option.some.injEq, Prod.mk.injEq] at h
  obtain ⟨rfl, rfl⟩ := h
  have st : St E (Kept gl w) M (viewH H) w := ⟨view_rel hr, fun g hg => by omega, hw, Keeps.refl w, fun b _ => view_wr b⟩
  have fin : ∀ cr cv w', (∃ o', jK (.call cr) o' = some u) → CallPost M (viewH H) w cr (.returned cv) w' → CallPost M H w (.ret u H) (.returned cv) w' := by
    rintro cr cv w' ⟨o', ho⟩ ⟨v1, H1, M1, rfl, x1, x2, x3⟩
    have hold : ∀ b, b < w.heap.size → w'.heap[b]? = w.heap[b]? := fun b hb => (x1.old b hb (view_wr b)).1
    refine ⟨u, H, M, rfl, ⟨List.prefix_refl _, x1.size, x1.os, x1.tape, x1.output, fun b hb hn => ⟨hold b hb, hn⟩, fun _ _ hn => hn⟩, ⟨hr.len, fun id o e => ?_, hr.inj⟩, rnV_rel (b := 0) (keep := []) (fun k i hk => by simp at hk) v1 u cv ho x3⟩
    obtain ⟨m, hm, r⟩ := hr.obj id o e
    exact ⟨m, hm, r.carry (List.prefix_refl _) (hold _ r.lt)⟩
  rcases (callN_sound (hE w hw) eqb_eq n).call f args _ [] jK u M w cargs hu st ha with ⟨cv, w', cr, hrun, hq, hp⟩ | ⟨hrun, hc⟩
  · exact .inl ⟨cv, w', hrun, fin cr cv w' hq hp⟩
  · refine .inr ⟨hrun, CallsIn.mono hc ?_⟩
    rintro e w' ⟨cr, hq, hp⟩
    cases e with
    | returned cv => exact fin cr cv w' hq hp
    | panicked ch =>
      obtain ⟨_, _, _, _, rfl, _⟩ := hp
      obtain ⟨_, ho⟩ := hq
      cases ho
    | outgrown => exact hp.elim
end
end
end Go.Vai
