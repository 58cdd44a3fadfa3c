/- A body cut at a test that hangs on an argument: its front by the kernel, the test by a fact, its rest by the kernel.
What a tree tells at its leaves; rows of pieces of code, by trees and by triples.
Names for what trees bear: leaves, places, a step up or down.
Environments out of lists of summaries; what a closed call leaves behind, as a summary of that call in whatever memory.
A call that leaves nothing behind: run by itself, all that it finds frozen; what comes out is a plain value, whatever the order of the maps that it goes over.
An argument that is a slice of plain data: what its row holds, as an object that may be read.
A law's start from arguments that are slices of plain data.
Calls from plain values to plain values as summaries; an argument's whole row.
What trees over values come to: their leaves' parts.
strings.Contains at known strings, whatever internal/bytealg.MaxLen holds: by the shelf's contract.
Numbers in trees: small ones are themselves.
A call that reads one row that it is handed and answers a plain value: by a triple from known memory, in whatever memory.
A call that reads four bytes of a row that it is handed and answers a plain value, as a summary.
Trees whose branches are named ahead, with summaries that may name branches too: a text that a call answers can be pinned to one that is named ahead.
Numbers of trees as Lean's own: wrapping as remainders, shifts as products and quotients, masks as remainders, bits that do not meet as sums. -/
import Derived.Test.YtdpkmhnpbbapcaaDoorVaiF
import Derived.Test.YtdpkmhnpbbapcaaDoorVaiG
import Derived.Test.YtdpkmhnpbbapcaaDoorVaiE
import Derived.Shelf.Strings.Search3
import Derived.Shelf.Vars
section
namespace Go.Vai
noncomputable section
def flat : Code → List Code
  | .seq a b => flat a ++ flat b
  | c => [c]
def Zau (E : Env) (ih : Task → Option TRes) : List Code → AFr → AHeap → Option TRes
  | [], fr, H => some (.code .normal fr H)
  | c :: cs, fr, H => match Yu E ih c fr H with
    | some (.code .normal fr H) => Zau E ih cs fr H
    | r => r
section
variable {E : Env} {ih : Task → Option TRes}
end
end
end Go.Vai
end
section
namespace Go.Vai
noncomputable section
structure Leaf where
  e : AExit
  n : Nat
  rd : Bool
  dn : Bool
  nx : Bool
  vs : List (Option AV)
  os : List (Option AObj)
def Yd2 : List ADf → Bool
  | [] => true
  | _ => false
def Yj (ng : Nat) (S keep : List Nat) : KC Leaf := fun e fr H => some ⟨e, fr.n, fr.rd, Yd2 fr.df, keep.all (fun i => Nat.blt i H.next), S.map fun s => (fr.t.get s).bind (X0 0 keep), (keep.drop ng).map H.get⟩
def Z9u : Code → Code
  | .block _ c => c
  | .loop c => c
  | c => c
def Zc : List Nat → Code → Code
  | [], c => c
  | i :: p, c => Zc p (Z9u ((flat c).getD i .skip))
def Zcs : List Nat → List AV → Tr AV
  | s :: S, v :: vs => (Zcs S vs).set s v
  | _, _ => .nil
def Zd (n : Nat) (S : List Nat) (vs : List AV) : AFr := ⟨n, Zcs S vs, [], false⟩
def Zs (ng : Nat) (os : List AObj) : AHeap := news { objs := .nil, next := ng } os
theorem Ve : ∀ {S : List Nat} {vs : List AV} {i : Nat} {y : AV}, (Zcs S vs).get i = some y → ∃ j : Nat, S[j]? = some i ∧ vs[j]? = some y
  | [], _, i, y, h => by simp [Zcs, Tr.get_nil] at h
  | _ :: _, [], i, y, h => by simp [Zcs, Tr.get_nil] at h
  | s :: S, v :: vs, i, y, h => by
    simp only [Zcs] at h
    rcases Tr.get_set h with ⟨rfl, rfl⟩ | ⟨_, h⟩
    · exact ⟨0, rfl, rfl⟩
    · obtain ⟨j, a, b⟩ := Ve h
      exact ⟨j + 1, by simpa using a, by simpa using b⟩
theorem Kh {ng : Nat} {os : List AObj} {k : Nat} {u : AObj} (h : (Zs ng os).get k = some u) : ∃ j : Nat, k = ng + j ∧ os[j]? = some u := by
  rcases Kx h with ⟨j, e, hj⟩ | ⟨h, _⟩
  · exact ⟨j, e, hj⟩
  · cases h
def Ww (ng : Nat) (keep : List Nat) : Bool := (List.range ng).all (fun g => keep[g]? == some g) && decide keep.Nodup
theorem Jx {ng n : Nat} {S keep : List Nat} {e e0 : AExit} {fr : AFr} {H : AHeap} {vs : List AV} {os os2 : List AObj} (h : Yj ng S keep e fr H = some ⟨e0, n, false, true, true, vs.map some, os.map some⟩) (hk : Ww ng keep = true) (hl : os2.length = os.length) (hkl : keep.length = ng + os.length)
    (hr : ∀ (j : Nat) o o2, os[j]? = some o → os2[j]? = some o2 → We 0 keep o o2) : e = e0 ∧ Ren ng keep fr H (Zd n S vs) (Zs ng os2) := by
  simp only [Yj, Option.some.injEq, Leaf.mk.injEq] at h
  obtain ⟨rfl, rfl, h2, h3, h4, h5, h6⟩ := h
  simp only [Ww, Bool.and_eq_true, List.all_eq_true, List.mem_range, beq_iff_eq, decide_eq_true_eq] at hk
  refine ⟨rfl, hk.1, fun i hi => ?_, hk.2, ?_, fun k u hu => ?_, rfl, h2.symm, ⟨?_, rfl⟩, fun i y hy => ?_⟩
  · have := List.all_eq_true.1 h4 i hi
    simpa using this
  · show (news { objs := .nil, next := ng } os2).next = _
    rw [Jm, hl, hkl]
  · obtain ⟨j, rfl, hj⟩ := Kh hu
    have hjl : j < os.length := by rw [← hl]; exact (List.getElem?_eq_some_iff.1 hj).1
    have hki : keep[ng + j]? = some (keep[ng + j]'(by omega)) := List.getElem?_eq_getElem _
    have h7 := congrArg (·[j]?) h6
    simp only [List.getElem?_map, List.getElem?_drop, hki, Option.map_some, List.getElem?_eq_getElem hjl, Option.some.injEq] at h7
    exact ⟨_, _, hki, h7, hr j _ _ (List.getElem?_eq_getElem hjl) hj⟩
  · cases hd : fr.df with
    | nil => rfl
    | cons x l => rw [hd] at h3; cases h3
  · obtain ⟨j, hs, hv⟩ := Ve hy
    have h7 := congrArg (·[j]?) h5
    simp only [List.getElem?_map, hs, hv, Option.map_some, Option.some.injEq] at h7
    cases hg : fr.t.get i with
    | none => rw [hg] at h7; cases h7
    | some x => rw [hg] at h7; exact ⟨x, rfl, h7⟩
def Zu {α : Type} (E : Env) (cl : Cl α) (l : List Code) : CK' α := List.rec (motive := fun _ => CK' α) (fun k => k .normal) (fun c _ K k => V1 E cl c (Zu7 K k)) l
theorem Zb3 {α : Type} {E : Env} {cl : Cl α} {ih : Task → Option TRes} (hc : Zcr cl ih) : ∀ (l : List Code) (k : KC α) (fr : AFr) (H : AHeap) (r : α), Zu E cl l k fr H = some r → ∃ e fr' H', Zau E ih l fr H = some (.code e fr' H') ∧ k e fr' H' = some r := by
  intro l
  induction l with
  | nil => intro k fr H r h; exact ⟨_, _, _, rfl, h⟩
  | cons c l ihl =>
    intro k fr H r h
    have h' : V1 E cl c (Zu7 (Zu E cl l) k) fr H = some r := h
    obtain ⟨e, fr1, H1, e1, e2⟩ := Wu hc c _ fr H r h'
    simp only [Zau, e1]
    cases e with
    | normal => exact ihl k fr1 H1 r e2
    | exit i => exact ⟨_, _, _, rfl, e2⟩
    | ret => exact ⟨_, _, _, rfl, e2⟩
    | panic v => exact ⟨_, _, _, rfl, e2⟩
section
variable {E : Env} {P : Program} {I : List MEnt → AHeap → World → Prop} {ih : Task → Option TRes} {ro : Option Nat}
def Zg (E : Env) (P : Program) (I : List MEnt → AHeap → World → Prop) (ro : Option Nat) : List Code → AFr → AHeap → TQ → Prop
  | [], fr, H, Q => ∀ M w a, St E I M H w → FRel ro M fr a → Zbc E I ro Q .normal a w
  | c :: cs, fr, H, Q => Yk E P I ro c fr H fun e fr' H' => (e = .normal ∧ Zg E P I ro cs fr' H' Q) ∨ (e ≠ .normal ∧ Q e fr' H')
theorem Zg.nil {fr : AFr} {H : AHeap} {Q : TQ} (h : Q .normal fr H) : Zg E P I ro [] fr H Q := fun M _ _ st hf => ⟨.normal, fr, H, M, h, st, rfl, hf⟩
theorem Zg.mono : ∀ {l : List Code} {fr : AFr} {H : AHeap} {Q Q' : TQ}, Zg E P I ro l fr H Q → (∀ e fr H, Q e fr H → Q' e fr H) → Zg E P I ro l fr H Q'
  | [], _, _, _, _, h, hq => fun M w a st hf => by
    obtain ⟨e, fr1, H1, M1, q, r⟩ := h M w a st hf
    exact ⟨e, fr1, H1, M1, hq _ _ _ q, r⟩
  | _ :: _, _, _, _, _, h, hq => Yk.mono h fun e fr' H' q => q.imp (fun ⟨a, b⟩ => ⟨a, Zg.mono b hq⟩) (fun ⟨a, b⟩ => ⟨a, hq _ _ _ b⟩)
theorem Zg.append : ∀ {l m : List Code} {fr : AFr} {H : AHeap} {Q : TQ}, Zg E P I ro (l ++ m) fr H Q → Zg E P I ro l fr H fun e fr' H' => (e = .normal ∧ Zg E P I ro m fr' H' Q) ∨ (e ≠ .normal ∧ Q e fr' H')
  | [], _, _, _, _, h => Zg.nil (.inl ⟨rfl, h⟩)
  | _ :: _, _, _, _, _, h => Yk.mono h fun e fr' H' q => by
    rcases q with ⟨a, b⟩ | ⟨a, b⟩
    · exact .inl ⟨a, Zg.append b⟩
    · exact .inr ⟨a, .inr ⟨a, b⟩⟩
theorem Z0 : ∀ (c : Code) {fr : AFr} {H : AHeap} {Q : TQ}, Zg E P I ro (flat c) fr H Q → Yk E P I ro c fr H Q := by
  have one : ∀ {c : Code} {fr : AFr} {H : AHeap} {Q : TQ}, Zg E P I ro [c] fr H Q → Yk E P I ro c fr H Q := by
    intro c fr H Q h M w a st hf
    refine wpIn_mono (h M w a st hf) ?_
    rintro ex a1 w1 ⟨e, fr1, H1, M1, q, s1, er, f1⟩
    rcases q with ⟨rfl, q⟩ | ⟨_, q⟩
    · simp only [Xr] at er; subst er
      exact q M1 w1 a1 s1 f1
    · exact ⟨e, fr1, H1, M1, q, s1, er, f1⟩
  intro c
  induction c with
  | seq a b iha ihb =>
    intro fr H Q h
    exact Yk.seq (iha ((Zg.append h).mono fun e fr' H' q => q.imp (fun ⟨x, y⟩ => ⟨x, ihb y⟩) id))
  | _ => intro fr H Q h; exact one h
theorem Zg.ren (hI : Carried I) {l : List Code} {keep : List Nat} {fr fr' : AFr} {H H' : AHeap} {Q : TQ} (r : Ren E.ng keep fr H fr' H') (h : Zg E P I ro l fr' H' Q) : Zg E P I ro l fr H Q := by
  cases l with
  | nil =>
    intro M w a st hf
    obtain ⟨M', s2, f2⟩ := r.to hI st hf
    exact h M' w a s2 f2
  | cons c cs => exact Yk.ren hI r h
theorem Zg.run (hE : EnvOk E P I) (hs : Sound E P I ih) : ∀ {l m : List Code} {fr : AFr} {H : AHeap} {e : AExit} {fr' : AFr} {H' : AHeap} {Q : TQ}, Zau E ih l fr H = some (.code e fr' H') → ((e = .normal ∧ Zg E P I ro m fr' H' Q) ∨ (e ≠ .normal ∧ Q e fr' H')) → Zg E P I ro (l ++ m) fr H Q
  | [], m, fr, H, e, fr', H', Q, h, hq => by
    simp only [Zau, Option.some.injEq, TRes.code.injEq] at h
    obtain ⟨rfl, rfl, rfl⟩ := h
    rcases hq with ⟨_, h⟩ | ⟨h, _⟩
    · exact h
    · exact absurd rfl h
  | c :: l, m, fr, H, e, fr', H', Q, h, hq => by
    simp only [Zau] at h
    split at h
    · rename_i fr1 H1 hc
      exact Yk.run hE hs hc (.inl ⟨rfl, Zg.run hE hs h hq⟩)
    · rename_i hne
      have hen : e ≠ .normal := fun he => by subst he; exact hne _ _ h
      rcases hq with ⟨h1, _⟩ | ⟨_, h1⟩
      · exact absurd h1 hen
      · exact Yk.run hE hs h (.inr ⟨hen, h1⟩)
end
theorem Zky {keep : List Nat} {n : Nat} {t : Tr AV} {e : TypeId} {g : Option Nat} {fz : Nat} {ro mk : Bool} (h : Za4 t) : We 0 keep (.cells n t e g fz ro mk) (.cells n t e g fz ro mk) := ⟨t, rfl, fun i y hy => ⟨y, hy, h i y hy 0 keep⟩⟩
end
end Go.Vai
end
section
namespace Go.Vai
noncomputable section
def lf (e : AExit) (n : Nat) (vs : List (Option AV)) (os : List (Option AObj)) : Option Leaf := some ⟨e, n, false, true, true, vs, os⟩
def Yl (k : Nat) : Nat := Nat.add 0 (Nat.mul k 1)
theorem Zrs (k : Nat) : Yl k = k := by simp [Yl]
def pr (k : Nat) : Int := Zf .i64 ((Int.ofNat k).sub (Int.ofNat 1))
def up (k : Nat) : Int := Zf .i64 (Int.ofNat k.succ)
theorem Vo {k : Nat} (h : k < 2 ^ 62) : Zf .i64 (.ofNat k) = .ofNat k := by
  have : inR .i64 (.ofNat k) = true := by
    show Nat.blt k _ = true
    rw [Nat.blt_eq]
    refine Nat.lt_of_lt_of_le h ?_
    decide
  unfold Zf
  rw [this]; rfl
theorem Yv {k : Nat} (h : k < 2 ^ 61) : up k = .ofNat (k + 1) := Vo (by omega)
theorem Zm {a b : Nat} (h : a < b) : Nat.blt a b = true := by rw [Nat.blt_eq]; exact h
theorem Yg {a b : Nat} (h : ¬ a < b) : Nat.blt a b = false := by
  cases e : Nat.blt a b with
  | false => rfl
  | true => rw [Nat.blt_eq] at e; exact absurd e h
theorem Yn {a b : Nat} (h : a ≤ b) : Nat.ble a b = true := by rw [Nat.ble_eq]; exact h
theorem Yab {a b : Nat} (h : ¬ a ≤ b) : Nat.ble a b = false := by
  cases e : Nat.ble a b with
  | false => rfl
  | true => rw [Nat.ble_eq] at e; exact absurd e h
theorem Zat {a b : Nat} (h : a = b) : Nat.beq a b = true := by rw [Nat.beq_eq]; exact h
theorem J2 {a b : Nat} (h : ¬ a = b) : Nat.beq a b = false := by
  cases e : Nat.beq a b with
  | false => rfl
  | true => rw [Nat.beq_eq] at e; exact absurd e h
section
variable {E : Env} {P : Program} {I : List MEnt → AHeap → World → Prop} {ro : Option Nat}
theorem Zg.leafC (hE : EnvOk E P I) {cl : Cl Leaf} {d : Nat} (hc : Zcr cl (Go.Vai.run E d)) {l : List Code} {fr : AFr} {H : AHeap} {S keep : List Nat} {e : AExit} {n : Nat} {vs : List AV} {os os2 : List AObj} {Q : TQ}
    (h : Zu E cl l (Yj E.ng S keep) fr H = lf e n (vs.map some) (os.map some)) (hk : Ww E.ng keep = true) (hl : os2.length = os.length) (hkl : keep.length = E.ng + os.length)
    (hr : ∀ (j : Nat) o o2, os[j]? = some o → os2[j]? = some o2 → We 0 keep o o2) (hm : ∀ fr' H', Ren E.ng keep fr' H' (Zd n S vs) (Zs E.ng os2) → Q e fr' H') : Zg E P I ro l fr H Q := by
  obtain ⟨e1, fr', H', e2, e3⟩ := Zb3 hc l _ fr H _ h
  obtain ⟨rfl, ren⟩ := Jx e3 hk hl hkl hr
  have := Zg.run (m := []) hE (Xv hE _) (ro := ro) (Q := Q) e2 (by
    cases e1 with
    | normal => exact .inl ⟨rfl, Zg.nil (hm _ _ ren)⟩
    | _ => exact .inr ⟨(by intro h; cases h), hm _ _ ren⟩)
  rwa [List.append_nil] at this
theorem Zg.leafXC (hE : EnvOk E P I) (hI : Carried I) {cl : Cl Leaf} {d : Nat} (hc : Zcr cl (Go.Vai.run E d)) {l m : List Code} {fr : AFr} {H : AHeap} {S keep : List Nat} {e : AExit} {n : Nat} {vs : List AV} {os os2 : List AObj} {Q : TQ}
    (h : Zu E cl l (Yj E.ng S keep) fr H = lf e n (vs.map some) (os.map some)) (hk : Ww E.ng keep = true) (hl : os2.length = os.length) (hkl : keep.length = E.ng + os.length)
    (hr : ∀ (j : Nat) o o2, os[j]? = some o → os2[j]? = some o2 → We 0 keep o o2)
    (hm : (e = .normal ∧ Zg E P I ro m (Zd n S vs) (Zs E.ng os2) Q) ∨ (e ≠ .normal ∧ ∀ fr' H', Ren E.ng keep fr' H' (Zd n S vs) (Zs E.ng os2) → Q e fr' H')) : Zg E P I ro (l ++ m) fr H Q := by
  obtain ⟨e1, fr', H', e2, e3⟩ := Zb3 hc l _ fr H _ h
  obtain ⟨rfl, ren⟩ := Jx e3 hk hl hkl hr
  refine Zg.run hE (Xv hE _) e2 ?_
  rcases hm with ⟨rfl, hm⟩ | ⟨hne, hm⟩
  · exact .inl ⟨rfl, Zg.ren hI ren hm⟩
  · exact .inr ⟨hne, hm _ _ ren⟩
theorem Yk.leafC (hE : EnvOk E P I) {cl : Cl Leaf} {d : Nat} (hc : Zcr cl (Go.Vai.run E d)) {c : Code} {fr : AFr} {H : AHeap} {S keep : List Nat} {e : AExit} {n : Nat} {vs : List AV} {os os2 : List AObj} {Q : TQ}
    (h : V1 E cl c (Yj E.ng S keep) fr H = lf e n (vs.map some) (os.map some)) (hk : Ww E.ng keep = true) (hl : os2.length = os.length) (hkl : keep.length = E.ng + os.length)
    (hr : ∀ (j : Nat) o o2, os[j]? = some o → os2[j]? = some o2 → We 0 keep o o2) (hm : ∀ fr' H', Ren E.ng keep fr' H' (Zd n S vs) (Zs E.ng os2) → Q e fr' H') : Yk E P I ro c fr H Q := by
  obtain ⟨e1, fr', H', e2, e3⟩ := Wu hc c _ fr H _ h
  obtain ⟨rfl, ren⟩ := Jx e3 hk hl hkl hr
  exact Yk.run hE (Xv hE _) e2 (hm _ _ ren)
theorem Zg.leafE (hE : EnvOk E P I) {d : Nat} {l : List Code} {fr : AFr} {H : AHeap} {S keep : List Nat} {e : AExit} {n : Nat} {vs : List AV} {os os2 : List AObj} {Q : TQ}
    (h : Zu E (Yw E d) l (Yj E.ng S keep) fr H = lf e n (vs.map some) (os.map some)) (hk : Ww E.ng keep = true) (hl : os2.length = os.length) (hkl : keep.length = E.ng + os.length)
    (hr : ∀ (j : Nat) o o2, os[j]? = some o → os2[j]? = some o2 → We 0 keep o o2) (hm : ∀ fr' H', Ren E.ng keep fr' H' (Zd n S vs) (Zs E.ng os2) → Q e fr' H') : Zg E P I ro l fr H Q := Zg.leafC hE (Vu E d) h hk hl hkl hr hm
theorem Zg.leafX (hE : EnvOk E P I) (hI : Carried I) {d : Nat} {l m : List Code} {fr : AFr} {H : AHeap} {S keep : List Nat} {e : AExit} {n : Nat} {vs : List AV} {os os2 : List AObj} {Q : TQ}
    (h : Zu E (Yw E d) l (Yj E.ng S keep) fr H = lf e n (vs.map some) (os.map some)) (hk : Ww E.ng keep = true) (hl : os2.length = os.length) (hkl : keep.length = E.ng + os.length)
    (hr : ∀ (j : Nat) o o2, os[j]? = some o → os2[j]? = some o2 → We 0 keep o o2)
    (hm : (e = .normal ∧ Zg E P I ro m (Zd n S vs) (Zs E.ng os2) Q) ∨ (e ≠ .normal ∧ ∀ fr' H', Ren E.ng keep fr' H' (Zd n S vs) (Zs E.ng os2) → Q e fr' H')) : Zg E P I ro (l ++ m) fr H Q := Zg.leafXC hE hI (Vu E d) h hk hl hkl hr hm
theorem Yk.leafE (hE : EnvOk E P I) {d : Nat} {c : Code} {fr : AFr} {H : AHeap} {S keep : List Nat} {e : AExit} {n : Nat} {vs : List AV} {os os2 : List AObj} {Q : TQ}
    (h : V1 E (Yw E d) c (Yj E.ng S keep) fr H = lf e n (vs.map some) (os.map some)) (hk : Ww E.ng keep = true) (hl : os2.length = os.length) (hkl : keep.length = E.ng + os.length)
    (hr : ∀ (j : Nat) o o2, os[j]? = some o → os2[j]? = some o2 → We 0 keep o o2) (hm : ∀ fr' H', Ren E.ng keep fr' H' (Zd n S vs) (Zs E.ng os2) → Q e fr' H') : Yk E P I ro c fr H Q := Yk.leafC hE (Vu E d) h hk hl hkl hr hm
end
def BT (T : Tr AV) : Prop := ∀ i v, T.get i = some v → ∃ b, v = .bool b
theorem BT.plain {T : Tr AV} (h : BT T) : Za4 T := fun i v hv => by
  obtain ⟨b, rfl⟩ := h i v hv
  intro _ _; rfl
def Z1p (N : Nat) (T : Tr AV) (F : Nat → Bool) : Prop := BT T ∧ ∀ k, k < N → T.get k = some (.bool (F k))
theorem Z1p.put {N : Nat} {T : Tr AV} {F G : Nat → Bool} {k : Nat} {b : Bool} (h : Z1p N T F) (hN : N ≤ 1000000) (hk : k < N) (hb : b = G k) (hG : ∀ j, j < N → j ≠ k → F j = G j) : Z1p N (T.putAll k [.bool b]) G := by
  have e : T.putAll k [.bool b] = T.set k (.bool b) := by rw [Tr.putAll_cons, Tr.putAll_nil]
  rw [e]
  refine ⟨fun i v hv => ?_, fun j hj => ?_⟩
  · rcases Tr.get_set hv with ⟨_, rfl⟩ | ⟨_, h2⟩
    · exact ⟨b, rfl⟩
    · exact h.1 i v h2
  · rw [Tr.get_set_eq T j _ (by omega)]
    split
    · rename_i e; subst e; rw [hb]
    · rename_i e; rw [h.2 j hj, hG j hj e]
end
end Go.Vai
end
section
namespace Go.Vai
noncomputable section
abbrev Sm := Nat → List AV → AHeap → Option (AV × AHeap)
def Qm (P : Program) (gl : List (Nat × List AV)) (sm : Sm) : Prop := ∀ f args H v H' M w cargs, sm f args H = some (v, H') → Yf gl w → HRel M H w → Zq M args cargs → Ku P f cargs M H w (.ret v H')
def Wv (a b : Sm) : Sm := fun f args H => Option.rec (motive := fun _ => Option (AV × AHeap)) (b f args H) (fun r => some r) (a f args H)
def Za1 (kinds : List (Nat × Nat × Nat)) : Sm := fun f args H => match Zh4 kinds f with
  | some (k, e) => Z4e k e args H
  | none => none
section
variable {P : Program} {gl : List (Nat × List AV)}
theorem Qm.or {a b : Sm} (ha : Qm P gl a) (hb : Qm P gl b) : Qm P gl (Wv a b) := by
  intro f args H v H' M w cargs h hw hr hv
  unfold Wv at h
  cases e : a f args H with
  | none => rw [e] at h; exact hb f args H v H' M w cargs h hw hr hv
  | some r =>
    rw [e] at h
    simp only [Option.some.injEq] at h
    subst h
    exact ha f args H v H' M w cargs e hw hr hv
theorem Jt {kinds : List (Nat × Nat × Nat)} (hK : Zmi P kinds = true) : Qm P gl (Za1 kinds) := by
  intro f args H v H' M w cargs h _ hr ha
  unfold Za1 at h
  split at h
  · rename_i k e hk
    exact Zma hK hk h hr ha
  · cases h
theorem Vp {ng : Nat} {skip : List Nat} {sm : Sm} {I : List MEnt → AHeap → World → Prop} (hN : Ke skip P.funcs.toList 0 = true) (hS : Qm P gl sm) (hM : P.follows .mixedOrders = true)
    (hX : ∀ M H w, I M H w → Yf gl w) (hI : ∀ M H w M' H' w', I M H w → Ext M H w M' H' w' → I M' H' w') : EnvOk (V3 P ng skip sm) P I where
  tys := Zpu P ng skip _
  fns := Zo2 hN
  carry := hI
  mixed := hM
  sm := fun f args H v H' M w cargs _ h st ha => hS f args H v H' M w cargs h (hX _ _ _ st.i) st.hr ha
end
structure Obj1 where
  n : Nat
  e : Nat
  g : Option Nat
  fz : Nat
  ro : Bool
  mr : Bool
  vs : List (Option AV)
structure Done where
  f : Nat
  args : List AV
  keep : List Nat
  v : AV
  os : List Obj1
section
variable {P : Program} {gl : List (Nat × List AV)}
theorem Zhu {E : Env} {f : FuncId} {args : List AV} {cargs : List Value} {n : Nat} {v : AV} {H1 : AHeap} (hE : ∀ w, Yf gl w → EnvOk E P (Kept gl w)) (hgl : (gl.all fun x => Nat.blt x.1 E.ng) = true) (hf : (E.fn f).isSome = true)
    (ha : Zq (Wq E.ng 0) args cargs) (h : run E n (.call f args (Xf E.ng gl)) = some (.call (.ret v H1))) : X6 P gl f cargs fun x H => x = v ∧ H = H1 := by
  intro w hw
  obtain ⟨fn, hfn⟩ := Option.isSome_iff_exists.1 hf
  have hr : HRel (Wq E.ng 0) (Xf E.ng gl) w := Zbx (Vy _ _) fun g av hm => by
    have hg : g < E.ng := by
      have := List.all_eq_true.1 hgl _ hm
      simpa using this
    exact ⟨hg, by rw [Ko _ 0 g hg]; simp, hw g av hm⟩
  have kp : Kept gl w (Wq E.ng 0) (Xf E.ng gl) w := ⟨hw, Keeps.refl w, fun b _ ⟨id, o, m, e, r, _⟩ => by rw [J3 _ _ id o e] at r; cases r⟩
  have := Za3 (hE w hw) hfn (Zmv (hE w hw) h ⟨hr, Zbu E, kp⟩ ha)
  refine ⟨this.1, CallsIn.mono this.2 ?_⟩
  intro e w' hp
  cases e with
  | outgrown => exact hp.elim
  | panicked ch => obtain ⟨_, _, _, _, e, _⟩ := hp; cases e
  | returned cv =>
    obtain ⟨v2, H2, M', e, x1, x2, x3⟩ := hp
    cases e
    exact ⟨cv, v, H1, M', rfl, x2, (Zt hw).ext _ _ _ _ _ _ kp x1, x3, rfl, rfl⟩
theorem Zq.anyPlain {args : List AV} (h : ∀ v ∈ args, Plain v) {M : List MEnt} {cargs : List Value} (ha : Zq M args cargs) (M' : List MEnt) : Zq M' args cargs := by
  have hr : ∀ (l : List AV), (∀ v ∈ l, Plain v) → V7 0 [] l = some l := by
    intro l
    induction l with
    | nil => intro _; rfl
    | cons a l ih => intro h; simp only [V7, h a List.mem_cons_self 0 [], ih fun v hv => h v (List.mem_cons_of_mem _ hv)]
  exact Zbq (b := 0) (keep := []) (fun k i hk => by simp at hk) args args cargs (hr args h) ha
theorem Zgp (s : List UInt8) : Plain (.str s) := fun _ _ => rfl
theorem Kp (k : IntKind) (n : Int) : Plain (.int k n) := fun _ _ => rfl
theorem Zjo (b : Bool) : Plain (.bool b) := fun _ _ => rfl
end
def Zqt (f : Nat) (b : Bool) : Sm := fun g args H => match args with
  | [] => bif Nat.beq g f then some (.bool b, H) else none
  | _ => none
theorem Zyr {P : Program} {gl : List (Nat × List AV)} {f : Nat} {b : Bool} (h : ∀ w, Yf gl w → (callFunc f #[]).run P w = .ok (.enter f #[]) w ∧ Calls P f #[] w fun e w' => e = .returned (.bool b) ∧ Keeps w w') : Qm P gl (Zqt f b) := by
  intro g args H v H' M w cargs hs hw hr ha
  unfold Zqt at hs
  split at hs
  case h_2 => cases hs
  cases hb : Nat.beq g f with
  | false => rw [hb] at hs; cases hs
  | true =>
    rw [hb] at hs
    simp only [cond_true, Option.some.injEq, Prod.mk.injEq] at hs
    obtain ⟨rfl, rfl⟩ := hs
    rw [Nat.beq_eq] at hb
    subst hb
    match cargs, ha with
    | [], _ =>
      obtain ⟨h1, h2⟩ := h w hw
      refine .inr ⟨h1, callsIn_wide.2 (h2.mono fun e w' ⟨he, hk⟩ => ?_)⟩
      subst he
      obtain ⟨x1, x2⟩ := hk.ext hr
      exact ⟨_, _, M, rfl, x1, x2, rfl⟩
def Ya8 {α : Type} (a b : Smk α) (c : FuncId → Bool) : Smk α := fun f args H k => bc (c f) (a f args H k) (b f args H k)
theorem Vj.or {α : Type} {E : Env} {a b : Smk α} {c : FuncId → Bool} (ha : ∀ f args H k r, c f = true → a f args H k = some r → ∃ v H', E.sm f args H = some (v, H') ∧ k v H' = some r) (hb : Vj E b) : Vj E (Ya8 a b c) := by
  intro f args H k r h
  unfold Ya8 at h
  cases hc : c f with
  | true => rw [hc] at h; exact ha f args H k r hc h
  | false => rw [hc] at h; exact hb f args H k r h
theorem Jg {ng : Nat} {gl : List (Nat × List AV)} {fn : AFunc} {args : List AV} (ha : ∀ v ∈ args, Plain v) : Ren ng (List.range ng) (Z8 fn args) (Xf ng gl) (Z8 fn args) (Zs ng []) where
  glob := fun g hg => by simp [hg]
  lt := fun i hi => by rw [Zj5]; simpa using hi
  nodup := List.nodup_range
  next := by simp [Zs, news]
  obj := fun k u h => by obtain ⟨_, _, hj⟩ := Kh h; simp at hj
  n := rfl
  rd := rfl
  df := ⟨rfl, rfl⟩
  t := fun i y hy => by
    refine ⟨y, hy, ?_⟩
    rcases Tr.get_putAll _ hy with ⟨q, rfl, hq⟩ | ⟨_, hu⟩
    · exact ha y (List.mem_of_getElem? hq) 0 _
    · simp [Tr.get_nil] at hu
theorem Zsq {P : Program} {E : Env} {gl : List (Nat × List AV)} {f : FuncId} {fn : AFunc} {t : Nat} {args : List AV} {cargs : List Value} {b : Bool} (hE : ∀ w, Yf gl w → EnvOk E P (Kept gl w)) (hgl : (gl.all fun x => Nat.blt x.1 E.ng) = true) (hf : E.fn f = some fn) (hr : fn.results = [.tmp t])
    (hp : ∀ v ∈ args, Plain v) (ha : Zq (Wq E.ng 0) args cargs) (h : ∀ w, Yf gl w → Yk E P (Kept gl w) none fn.body (Z8 fn args) (Zs E.ng []) fun e fr _ => (e = .normal ∨ e = .ret) ∧ fr.df = [] ∧ fr.t.get t = some (.bool b)) {w : World} (hw : Yf gl w) :
    Calls P f cargs.toArray w fun e w' => e = .returned (.bool b) ∧ Keeps w w' := by
  have hb : X6 P gl f cargs fun v _ => v = .bool b := by
    refine Zec hE hgl hf ha fun w hw => Yk.ren (Zt hw) (Jg hp) (Yk.mono (h w hw) ?_)
    rintro e fr H ⟨he, h1, h2⟩
    exact ⟨he, h1, [.bool b], by rw [hr]; simp [Xm, h2], rfl⟩
  refine Calls.mono (callsIn_wide.1 (hb w hw).2) ?_
  rintro e w' ⟨cv, v, H, M, rfl, _, kp, hv, rfl⟩
  simp only [Zj] at hv
  exact ⟨by rw [hv], kp.2.1⟩
end
end Go.Vai
end
section
namespace Go.Vai
noncomputable section
section
variable {P : Program} {M : List MEnt} {H : AHeap} {w : World} {gl : List (Nat × List AV)}
def jK : TRes → Wh → Option AV
  | .call (.ret v _), _ => X0 0 [] v
  | _, _ => none
end
end
end Go.Vai
end
section
namespace Go.Vai
open Go.RowKit
section
variable {H : Type} {enc : TypeId × Value → H} {P : Program} {w : World} {base : Nat} {spare : Nat → Bool} {held : Bool}
end
end Go.Vai
end
section
namespace Go.Vai
noncomputable section
inductive RA where
  | nil
  | none0
  | row (len cap q : Nat) (T : Tr AV)
def RA.av (id : Nat) : RA → AV
  | .nil => .nils
  | .none0 => .sl0
  | .row len cap _ _ => .sl id 0 len (some cap)
def RA.obj : RA → AObj
  | .nil => .cells 0 .nil 0 none 0 true false
  | .none0 => .cells 0 .nil 0 none 0 true false
  | .row len _ q T => .cells (len * q) T 0 none 0 true false
def RA.len : RA → Nat
  | .nil => 0
  | .none0 => 0
  | .row len _ _ _ => len
section
variable {H : Type} {enc : TypeId × Value → H} {P : Program} {w : World} {base : Nat} {spare : Nat → Bool} {held : Bool}
end
section
variable {P : Program} {E : Env} {gl : List (Nat × List AV)} {w : World}
theorem Zxb {ng : Nat} {ex : List MEnt} {os : List AObj} (hl : ex.length = os.length) (hro : ∀ o ∈ os, o.isRo = true) (ho : ∀ (j : Nat) m o, ex[j]? = some m → os[j]? = some o → Qf [] m w o) : HRel (Wq ng 0 ++ ex) (Zs ng os) w := by
  have at_ : ∀ j, (Wq ng 0 ++ ex)[ng + j]? = ex[j]? := fun j => by
    rw [List.getElem?_append_right (by rw [Vy]; omega), Vy]; congr 1; omega
  refine ⟨?_, fun id o h => ?_, fun i j o p m k hi hj _ _ _ _ => ?_⟩
  · have e : (Zs ng os).next = ng + os.length := Jm os _
    rw [e, List.length_append, Vy, hl]
  · obtain ⟨j, rfl, hj⟩ := Kh h
    have hjl := (List.getElem?_eq_some_iff.1 hj).1
    obtain ⟨m, hm⟩ : ∃ m, ex[j]? = some m := ⟨_, List.getElem?_eq_getElem (by omega)⟩
    exact ⟨m, by rw [at_, hm], (ho j m o hm hj).carry List.nil_prefix rfl⟩
  · obtain ⟨a, _, ha⟩ := Kh hi
    obtain ⟨b, _, hb⟩ := Kh hj
    exact ⟨hro o (List.mem_of_getElem? ha), hro p (List.mem_of_getElem? hb)⟩
end
end
end Go.Vai
end
section
namespace Go.Vai
noncomputable section
mutual
theorem Ziu (b : Nat) : ∀ v : AV, X0 b [] v = X0 0 [] v
  | .ptr _ _ => rfl
  | .sl _ _ _ _ => rfl
  | .yld _ => rfl
  | .mapv _ => rfl
  | .nilm => rfl
  | .opq _ => rfl
  | .ext _ _ _ _ _ _ => rfl
  | .fn f x y => by simp only [X0, Zdo b x, Zdo b y]
  | .iface t x => by simp only [X0, Ziu b x]
  | .agg l => by simp only [X0, Zdo b l]
  | .tup l => by simp only [X0, Zdo b l]
  | .bool _ => rfl
  | .int _ _ => rfl
  | .str _ => rfl
  | .nilp => rfl
  | .nils => rfl
  | .sl0 => rfl
  | .nilf => rfl
  | .nili => rfl
theorem Zdo (b : Nat) : ∀ v : List AV, V7 b [] v = V7 0 [] v
  | [] => rfl
  | v :: vs => by simp only [V7, Ziu b v, Zdo b vs]
end
def Zx (F : Nat → List AV → Option AV) : Sm := fun f args H => Option.rec (motive := fun _ => Option (AV × AHeap)) none (fun v => some (v, H)) (F f args)
section
variable {P : Program} {gl : List (Nat × List AV)}
theorem Zlq {F : Nat → List AV → Option AV}
    (hF : ∀ f args v, F f args = some v → ∃ (E : Env) (n : Nat) (s : Smk AV), Vj E s ∧ (∀ w, Yf gl w → EnvOk E P (Kept gl w)) ∧ (gl.all fun x => Nat.blt x.1 E.ng) = true ∧ (E.fn f).isSome = true ∧ (∀ a ∈ args, Plain a) ∧ ∃ o, Zk E s Zn n (.call f args (Xf E.ng gl)) o jK = some v) : Qm P gl (Zx F) := by
  intro f args H v H' M w cargs hs hw hr ha
  unfold Zx at hs
  cases hF' : F f args with
  | none => rw [hF'] at hs; cases hs
  | some u =>
    rw [hF'] at hs
    have hs : some (u, H) = some (v, H') := hs
    simp only [Option.some.injEq, Prod.mk.injEq] at hs
    obtain ⟨rfl, rfl⟩ := hs
    obtain ⟨E, n, s, hs, hE, hgl, h1, h2, o, h3⟩ := hF f args _ hF'
    obtain ⟨x, o', e, hk⟩ := Xs E hs Zn n _ _ _ _ h3
    cases x with
    | code a b c => cases hk
    | dcall a => cases hk
    | call c =>
      cases c with
      | pan v H => cases hk
      | ret v1 H1 =>
        have hk : X0 0 [] v1 = some u := hk
        refine X6.calls (os := []) (Zhu hE hgl h1 (Zq.anyPlain h2 ha _) e) hw hr ?_
        rintro v2 H2 ⟨rfl, rfl⟩
        exact ⟨[], List.nodup_nil, rfl, by rw [Ziu]; exact hk, fun j x hx => by simp at hx⟩
theorem W3 {F : Nat → List AV → Option AV}
    (hF : ∀ f args v, F f args = some v → ∃ (E : Env) (n : Nat), (∀ w, Yf gl w → EnvOk E P (Kept gl w)) ∧ (gl.all fun x => Nat.blt x.1 E.ng) = true ∧ (E.fn f).isSome = true ∧ (∀ a ∈ args, Plain a) ∧ ∃ o, Xn E n (.call f args (Xf E.ng gl)) o jK = some v) : Qm P gl (Zx F) :=
  Zlq fun f args v h => by
    obtain ⟨E, n, a, b, c, d, o, e⟩ := hF f args v h
    exact ⟨E, n, _, Vr E, a, b, c, d, o, e⟩
end
theorem Zq2 {α : Type} (t : Tr α) {i : Nat} (j : Nat) (v : α) (h : i < 2 ^ 47) : (t.set i v).get j = if j = i then some v else t.get j := Tr.getF_eq 48 t i j (some v) (by omega)
theorem Ws {α : Type} : ∀ (vs : List α) (t : Tr α) (k j : Nat), k + vs.length ≤ 2 ^ 47 → (t.putAll k vs).get j = if k ≤ j ∧ j < k + vs.length then vs[j - k]? else t.get j
  | [], t, k, j, _ => by rw [if_neg (by simp only [List.length_nil]; omega)]; rfl
  | v :: vs, t, k, j, h => by
    simp only [List.length_cons] at h ⊢
    show ((t.set k v).putAll (k + 1) vs).get j = _
    rw [Ws vs _ _ _ (by omega), Zq2 _ _ _ (by omega)]
    by_cases h1 : j = k
    · subst h1
      rw [if_neg (by omega), if_pos rfl, if_pos (by omega), Nat.sub_self]; rfl
    · rw [if_neg h1]
      by_cases h2 : k + 1 ≤ j ∧ j < k + 1 + vs.length
      · rw [if_pos h2, if_pos (by omega), show j - k = (j - (k + 1)) + 1 by omega, List.getElem?_cons_succ]
      · rw [if_neg h2, if_neg (by omega)]
section
variable {H : Type} {enc : TypeId × Value → H} {P : Program} {w : World} {base : Nat} {spare : Nat → Bool} {held : Bool}
theorem Zv4 {n : Nat} {t : TypeId} {cs : List Value} {x : DataW H × List MemPlace} {ms : Array (String × TypeId)} (hu : P.underlying t = some (.interface ms)) (h : DataW.trod enc P w base spare held n t cs = some x) : Zq [] [.opq none] cs := by
  cases n with
  | zero => simp [DataW.trod] at h
  | succ n =>
    match cs with
    | [] => simp [DataW.trod, hu] at h
    | [v] =>
      cases v with
      | nilIface => exact ⟨⟨fun _ e => (by cases e), fun _ e => (by cases e), fun _ e => (by cases e)⟩, trivial⟩
      | iface u y => exact ⟨⟨fun _ e => (by cases e), fun _ e => (by cases e), fun _ e => (by cases e)⟩, trivial⟩
      | _ => simp [DataW.trod, hu] at h
    | _ :: _ :: _ => simp [DataW.trod, hu] at h
theorem Z2y {laid : List (String × DataW Unit)} (h : laidMetH P laid w) (hp : (laid.all fun x => x.2.handleName?.isNone) = true) {name : String} {d : DataW Unit} (hm : (name, d) ∈ laid) {g t : Nat} (hg : P.globalNamed name = some g) (ht : (P.globals[g]?).map (·.type) = some t)
    {ms : Array (String × TypeId)} (hu : P.underlying t = some (.interface ms)) : ∃ cs e lo hi, w.heap[g]? = some (.cells cs e (lo, hi)) ∧ Zq [] [.opq none] cs.toList := by
  rw [MakeChecks.laidMetH_plain _ _ _ hp] at h
  obtain ⟨g', t', cs, fuel, p, h1, h2, h3, h4⟩ := Lib.laidMet.reads h hm
  rw [hg] at h1; cases h1
  rw [ht] at h2; cases h2
  have := Zv4 hu h4
  unfold World.var? at h3
  rw [hg] at h3
  simp only [Option.bind_some] at h3
  cases hh : w.heap[g]? with
  | none => rw [hh] at h3; cases h3
  | some o =>
    rw [hh] at h3
    cases o with
    | cells cur e fz =>
      simp only [Option.some.injEq] at h3
      subst h3
      obtain ⟨lo, hi⟩ := fz
      exact ⟨_, e, lo, hi, rfl, this⟩
    | _ => simp at h3
end
section
open Go.RowKit
variable {H : Type} {enc : TypeId × Value → H} {P : Program} {w : World} {base : Nat} {spare : Nat → Bool} {held : Bool}
end
end
end Go.Vai
end
section
namespace Go.Vai
noncomputable section
theorem Zej {α : Type} {p : α → Bool} {b : Bool} {x y : α} (hx : p x = true) (hy : p y = true) : p (bc b x y) = true := by cases b <;> assumption
def at_ : List Nat → AV → AV
  | [], v => v
  | i :: p, .tup l => at_ p (l.getD i .nilp)
  | i :: p, .agg l => at_ p (l.getD i .nilp)
  | _ :: _, v => v
def Zpm : AV → Bool
  | .bool b => b
  | _ => false
def Ybz : AV → Int
  | .int _ n => n
  | _ => 0
theorem Zir (k : IntKind) (n : Int) : AV.eqb (.int k n) (.int k n) = true := by simp [AV.eqb, sameKind, Vt]
def Zc8 : List AV → Bool
  | [] => true
  | .bool _ :: l => Zc8 l
  | .int _ _ :: l => Zc8 l
  | .str _ :: l => Zc8 l
  | .agg c :: l => plainC c && Zc8 l
  | _ :: _ => false
where plainC : List AV → Bool
  | [] => true
  | .bool _ :: l => plainC l
  | .int _ _ :: l => plainC l
  | .str _ :: l => plainC l
  | _ :: _ => false
theorem Zd6 : ∀ {l : List AV}, Zc8.plainC l = true → ∀ b keep, V7 b keep l = some l
  | [], _, _, _ => rfl
  | .bool _ :: l, h, b, keep => by simp only [V7, X0, Zd6 (l := l) h b keep]
  | .int _ _ :: l, h, b, keep => by simp only [V7, X0, Zd6 (l := l) h b keep]
  | .str _ :: l, h, b, keep => by simp only [V7, X0, Zd6 (l := l) h b keep]
theorem Z2 : ∀ {l : List AV}, Zc8 l = true → ∀ a ∈ l, Plain a
  | [], _, a, ha => by cases ha
  | .bool x :: l, h, a, ha => by
    rcases List.mem_cons.1 ha with rfl | ha
    · exact fun _ _ => rfl
    · exact Z2 (l := l) h a ha
  | .int k n :: l, h, a, ha => by
    rcases List.mem_cons.1 ha with rfl | ha
    · exact fun _ _ => rfl
    · exact Z2 (l := l) h a ha
  | .str s :: l, h, a, ha => by
    rcases List.mem_cons.1 ha with rfl | ha
    · exact fun _ _ => rfl
    · exact Z2 (l := l) h a ha
  | .agg c :: l, h, a, ha => by
    have h : (Zc8.plainC c && Zc8 l) = true := h
    rw [Bool.and_eq_true] at h
    rcases List.mem_cons.1 ha with rfl | ha
    · exact fun b keep => by simp only [X0, Zd6 h.1 b keep]
    · exact Z2 (l := l) h.2 a ha
theorem Zck {t : Tr AV} (h : Za4 t) {vs : List AV} {k : Nat} (hs : ∀ v ∈ vs, Plain v) : Za4 (t.putAll k vs) := fun i v hv => by
  rcases Tr.get_putAll _ hv with ⟨q, _, hq⟩ | ⟨_, hu⟩
  · exact hs v (List.mem_of_getElem? hq)
  · exact h i v hu
section
variable {P : Program} {gl : List (Nat × List AV)}
end
end
end Go.Vai
end
section
namespace Go.Vai
noncomputable section
theorem Z4u {gl : List (Nat × List AV)} {g : Nat} {k : IntKind} {w : World} (hg : (g, [.opq (some k)]) ∈ gl) (hw : Yf gl w) : ∃ m, w.cell? ⟨g, 0, none⟩ = some (.int k m) := by
  obtain ⟨cs, e, lo, hi, h1, h2⟩ := hw g _ hg
  have hl := h2.length
  obtain ⟨v, hv, _, _, h3⟩ := h2.get 0 _ rfl
  obtain ⟨m, rfl⟩ := h3 k rfl
  refine ⟨m, ?_⟩
  simp only [World.cell?, h1]
  simpa using hv
end
end Go.Vai
end
section
namespace Go.Vai
end Go.Vai
end
section
namespace Go.Vai
noncomputable section
section
variable {P : Program} {gl : List (Nat × List AV)} {E : Env}
theorem Zmk {M : List MEnt} {v : AV} {cv : Value} (hp : Plain v) (h : Zj M v cv) (M' : List MEnt) : Zj M' v cv :=
  V8 (b := 0) (keep := []) (fun k i hk => by simp at hk) v v cv (hp 0 []) h
theorem Zrb {M : List MEnt} {m : MEnt} {w : World} {n : Nat} {T : Tr AV} {e : TypeId} {g : Option Nat} {fz : Nat} {ro mk : Bool} (h : Qf M m w (.cells n T e g fz ro mk)) (hT : Za4 T) (e2 : TypeId) : Qf [] m w (.cells n T e2 none 0 true false) := by
  obtain ⟨cur, e', lo, hi, h1, h2, h3, h4, h5, h6, h7⟩ := h
  refine ⟨cur, e', lo, hi, h1, (fun e => by cases e), h3, (fun gs e => by cases e), (fun e => by cases e), (fun e => by cases e), fun i v hv => ?_⟩
  obtain ⟨a, cv, b, c⟩ := h7 i v hv
  exact ⟨a, cv, b, Zmk (hT i v hv) c []⟩
theorem Zks {f : FuncId} {fn : AFunc} {args : List AV} {cargs : List Value} {u : AV} {M : List MEnt} {H : AHeap} {w : World} {os : List AObj} {ex : List MEnt} (hE : ∀ w, Yf gl w → EnvOk E P (Kept gl w)) (hf : E.fn f = some fn) (hw : Yf gl w) (hr : HRel M H w)
    (hl : ex.length = os.length) (hro : ∀ o ∈ os, o.isRo = true) (ho : ∀ (j : Nat) m o, ex[j]? = some m → os[j]? = some o → Qf [] m w o) (ha : Zq (Wq E.ng 0 ++ ex) args cargs)
    (hp : Plain u) (h : Yk E P (Kept gl w) none fn.body (Z8 fn args) (Zs E.ng os) fun e fr H => (e = .normal ∨ e = .ret) ∧ fr.df = [] ∧ ∃ keep fr' H' l, Ren E.ng keep fr H fr' H' ∧ Xm E fr'.t H' fn.results = some l ∧ Ja l = u) : Ku P f cargs M H w (.ret u H) := by
  obtain ⟨Fn, hF⟩ := (hE w hw).fns f fn hf
  have hr0 := Zxb (ng := E.ng) hl hro ho
  have kp : Kept gl w (Wq E.ng 0 ++ ex) (Zs E.ng os) w := ⟨hw, Keeps.refl w, fun b _ ⟨id, o, m, e, r, _⟩ => by
    obtain ⟨j, _, hj⟩ := Kh e
    rw [hro o (List.mem_of_getElem? hj)] at r; cases r⟩
  refine .inr ⟨Jn hF _, callsIn_of_wp hF.at_ hF.body trivial ?_⟩
  refine wpIn_mono (h _ w _ ⟨hr0, (Zbu E).mono (List.prefix_append _ _), kp⟩ (Kr hF ha)) ?_
  rintro ex1 a1 w1 ⟨e, fr, H1, M1, ⟨he, hd, keep, fr2, H2, l, ren, hl1, hu⟩, s1, er, f1⟩
  have hdf : a1.defers = [] := by
    have := f1.df
    rw [hd] at this
    generalize a1.defers = x at this ⊢
    cases this; rfl
  rw [← hF.res] at hl1
  obtain ⟨M2, s2, f2⟩ := ren.to (Zt hw) s1 f1
  obtain ⟨cv, r1, r2⟩ := W6 (hE w hw).tys s2.hr f2.t hl1
  rw [hu] at r2
  have hv : Zj M u cv := Zmk hp r2 M
  have kk := s1.i.2.1
  have fin : X2 M H w (.ret u H) (.returned cv) w1 :=
    ⟨u, H, M, rfl, ⟨List.prefix_refl _, kk.size, kk.os, kk.tape, kk.output, fun b hb hn => ⟨kk.old b hb, hn⟩, fun _ _ hn => hn⟩, ⟨hr.len, fun id o e => by
      obtain ⟨m, hm, r⟩ := hr.obj id o e
      exact ⟨m, hm, r.carry (List.prefix_refl _) (kk.old _ r.lt)⟩, hr.inj⟩, hv⟩
  rcases he with rfl | rfl
  · simp only [Xr] at er; subst er
    exact ⟨hdf, cv, r1, fin⟩
  · simp only [Xr] at er; subst er
    exact ⟨hdf, cv, r1, fin⟩
end
end
end Go.Vai
end
section
namespace Go.Vai
noncomputable section
def Yhr (b0 b1 b2 b3 : Int) : Int := Zf .u32 (orI .u32 (Zf .u32 (orI .u32 (Zf .u32 (orI .u32 (Zf .u32 b0) (Zf .u32 (Zww (Zf .u32 b1) 8)))) (Zf .u32 (Zww (Zf .u32 b2) 16)))) (Zf .u32 (Zww (Zf .u32 b3) 24)))
end
end Go.Vai
end
section
namespace Go.Vai
noncomputable section
variable {α : Type}
end
end Go.Vai
end
section
namespace Go.Vai
theorem Zve (k : IntKind) (m : Nat) (hk : k.signed = false) (hb : k.bits = m) (x : Int) : Zf k x = x % (2 ^ m : Int) := by
  rw [Qx]
  unfold IntKind.wrap
  simp [hk, hb]
theorem Z25 (x : Int) : Zf .u8 x = x % 256 := Zve .u8 8 rfl rfl x
theorem Zhh (x : Int) : Zf .u64 x = x % 18446744073709551616 := Zve .u64 64 rfl rfl x
end Go.Vai
end
