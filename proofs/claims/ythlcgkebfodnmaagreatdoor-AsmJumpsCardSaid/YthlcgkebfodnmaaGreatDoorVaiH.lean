/- A body cut at a test that hangs on an argument: its front by the kernel, the test by a fact, its rest by the kernel.
What a tree tells at its leaves; rows of pieces of code, by trees and by triples.
Names for what trees bear: leaves, places, a step up or down.
Environments out of lists of summaries; what a closed call leaves behind, as a summary of that call in whatever memory.
A call that leaves nothing behind: run by itself, all that it finds frozen; what comes out is a plain value, whatever the order of the maps that it goes over.
An argument that is a slice of plain data: what its row holds, as an object that may be read.
A law's start from arguments that are slices of plain data.
Calls from plain values to plain values as summaries; an argument's whole row.
What trees over values come to: their leaves' parts.
strings.Contains at known strings, whatever internal/bytealg.MaxLen holds: by the shelf's contract.
Numbers in trees: small ones are themselves.
A call that reads one row that it is handed and answers a plain value: by a triple from known memory, in whatever memory.
A call that reads four bytes of a row that it is handed and answers a plain value, as a summary.
Trees whose branches are named ahead, with summaries that may name branches too: a text that a call answers can be pinned to one that is named ahead.
Numbers of trees as Lean's own: wrapping as remainders, shifts as products and quotients, masks as remainders, bits that do not meet as sums. -/
import Derived.Test.YthlcgkebfodnmaaGreatDoorVaiG
import Derived.Shelf.Strings.Search3
import Derived.Shelf.Vars
section
namespace Go.Vai
noncomputable section
def flat : Code → List Code
  | .seq a b => flat a ++ flat b
  | c => [c]
def codeL (E : Env) (ih : Task → Option TRes) : List Code → AFr → AHeap → Option TRes
  | [], fr, H => some (.code .normal fr H)
  | c :: cs, fr, H => match codeA E ih c fr H with
    | some (.code .normal fr H) => codeL E ih cs fr H
    | r => r
section
variable {E : Env} {ih : Task → Option TRes}
end
end
end Go.Vai
end
section
namespace Go.Vai
noncomputable section
structure Leaf where
  e : AExit
  n : Nat
  rd : Bool
  dn : Bool
  nx : Bool
  vs : List (Option AV)
  os : List (Option AObj)
def nilD : List ADf → Bool
  | [] => true
  | _ => false
def leafK (ng : Nat) (S keep : List Nat) : KC Leaf := fun e fr H => some ⟨e, fr.n, fr.rd, nilD fr.df, keep.all (fun i => Nat.blt i H.next), S.map fun s => (fr.t.get s).bind (rnV 0 keep), (keep.drop ng).map H.get⟩
def inner : Code → Code
  | .block _ c => c
  | .loop c => c
  | c => c
def codeAt : List Nat → Code → Code
  | [], c => c
  | i :: p, c => codeAt p (inner ((flat c).getD i .skip))
def putL : List Nat → List AV → Tr AV
  | s :: S, v :: vs => (putL S vs).set s v
  | _, _ => .nil
def mkFr (n : Nat) (S : List Nat) (vs : List AV) : AFr := ⟨n, putL S vs, [], false⟩
def mkH (ng : Nat) (os : List AObj) : AHeap := news { objs := .nil, next := ng } os
theorem putL_get : ∀ {S : List Nat} {vs : List AV} {i : Nat} {y : AV}, (putL S vs).get i = some y → ∃ j : Nat, S[j]? = some i ∧ vs[j]? = some y
  | [], _, i, y, h => by simp [putL, Tr.get_nil] at h
  | _ :: _, [], i, y, h => by simp [putL, Tr.get_nil] at h
  | s :: S, v :: vs, i, y, h => by
    simp only [putL] at h
    rcases Tr.get_set h with ⟨rfl, rfl⟩ | ⟨_, h⟩
    · exact ⟨0, rfl, rfl⟩
    · obtain ⟨j, a, b⟩ := putL_get h
      exact ⟨j + 1, by simpa using a, by simpa using b⟩
theorem mkH_get {ng : Nat} {os : List AObj} {k : Nat} {u : AObj} (h : (mkH ng os).get k = some u) : ∃ j : Nat, k = ng + j ∧ os[j]? = some u := by
  rcases news_get h with ⟨j, e, hj⟩ | ⟨h, _⟩
  · exact ⟨j, e, hj⟩
  · cases h
def keepOk (ng : Nat) (keep : List Nat) : Bool := (List.range ng).all (fun g => keep[g]? == some g) && decide keep.Nodup
theorem ren_of_leaf {ng n : Nat} {S keep : List Nat} {e e0 : AExit} {fr : AFr} {H : AHeap} {vs : List AV} {os os2 : List AObj} (h : leafK ng S keep e fr H = some ⟨e0, n, false, true, true, vs.map some, os.map some⟩) (hk : keepOk ng keep = true) (hl : os2.length = os.length) (hkl : keep.length = ng + os.length)
    (hr : ∀ (j : Nat) o o2, os[j]? = some o → os2[j]? = some o2 → RObj 0 keep o o2) : e = e0 ∧ Ren ng keep fr H (mkFr n S vs) (mkH ng os2) := by
  simp only [leafK, Option.some.injEq, Leaf.mk.injEq] at h
  obtain ⟨rfl, rfl, h2, h3, h4, h5, h6⟩ := h
  simp only [keepOk, Bool.and_eq_true, List.all_eq_true, List.mem_range, beq_iff_eq, decide_eq_true_eq] at hk
  refine ⟨rfl, hk.1, fun i hi => ?_, hk.2, ?_, fun k u hu => ?_, rfl, h2.symm, ⟨?_, rfl⟩, fun i y hy => ?_⟩
  · have := List.all_eq_true.1 h4 i hi
    simpa using this
  · show (news { objs := .nil, next := ng } os2).next = _
    rw [news_next, hl, hkl]
  · obtain ⟨j, rfl, hj⟩ := mkH_get hu
    have hjl : j < os.length := by rw [← hl]; exact (List.getElem?_eq_some_iff.1 hj).1
    have hki : keep[ng + j]? = some (keep[ng + j]'(by omega)) := List.getElem?_eq_getElem _
    have h7 := congrArg (·[j]?) h6
    simp only [List.getElem?_map, List.getElem?_drop, hki, Option.map_some, List.getElem?_eq_getElem hjl, Option.some.injEq] at h7
    exact ⟨_, _, hki, h7, hr j _ _ (List.getElem?_eq_getElem hjl) hj⟩
  · cases hd : fr.df with
    | nil => rfl
    | cons x l => rw [hd] at h3; cases h3
  · obtain ⟨j, hs, hv⟩ := putL_get hy
    have h7 := congrArg (·[j]?) h5
    simp only [List.getElem?_map, hs, hv, Option.map_some, Option.some.injEq] at h7
    cases hg : fr.t.get i with
    | none => rw [hg] at h7; cases h7
    | some x => rw [hg] at h7; exact ⟨x, rfl, h7⟩
def codesKK {α : Type} (E : Env) (cl : Cl α) (l : List Code) : CK' α := List.rec (motive := fun _ => CK' α) (fun k => k .normal) (fun c _ K k => codeKK E cl c (seqKK K k)) l
theorem codesKK_some {α : Type} {E : Env} {cl : Cl α} {ih : Task → Option TRes} (hc : ClOk cl ih) : ∀ (l : List Code) (k : KC α) (fr : AFr) (H : AHeap) (r : α), codesKK E cl l k fr H = some r → ∃ e fr' H', codeL E ih l fr H = some (.code e fr' H') ∧ k e fr' H' = some r := by
  intro l
  induction l with
  | nil => intro k fr H r h; exact ⟨_, _, _, rfl, h⟩
  | cons c l ihl =>
    intro k fr H r h
    have h' : codeKK E cl c (seqKK (codesKK E cl l) k) fr H = some r := h
    obtain ⟨e, fr1, H1, e1, e2⟩ := codeKK_some hc c _ fr H r h'
    simp only [codeL, e1]
    cases e with
    | normal => exact ihl k fr1 H1 r e2
    | exit i => exact ⟨_, _, _, rfl, e2⟩
    | ret => exact ⟨_, _, _, rfl, e2⟩
    | panic v => exact ⟨_, _, _, rfl, e2⟩
section
variable {E : Env} {P : Program} {I : List MEnt → AHeap → World → Prop} {ih : Task → Option TRes} {ro : Option Nat}
def TriL (E : Env) (P : Program) (I : List MEnt → AHeap → World → Prop) (ro : Option Nat) : List Code → AFr → AHeap → TQ → Prop
  | [], fr, H, Q => ∀ M w a, St E I M H w → FRel ro M fr a → TPost E I ro Q .normal a w
  | c :: cs, fr, H, Q => Tri E P I ro c fr H fun e fr' H' => (e = .normal ∧ TriL E P I ro cs fr' H' Q) ∨ (e ≠ .normal ∧ Q e fr' H')
theorem TriL.nil {fr : AFr} {H : AHeap} {Q : TQ} (h : Q .normal fr H) : TriL E P I ro [] fr H Q := fun M _ _ st hf => ⟨.normal, fr, H, M, h, st, rfl, hf⟩
theorem TriL.mono : ∀ {l : List Code} {fr : AFr} {H : AHeap} {Q Q' : TQ}, TriL E P I ro l fr H Q → (∀ e fr H, Q e fr H → Q' e fr H) → TriL E P I ro l fr H Q'
  | [], _, _, _, _, h, hq => fun M w a st hf => by
    obtain ⟨e, fr1, H1, M1, q, r⟩ := h M w a st hf
    exact ⟨e, fr1, H1, M1, hq _ _ _ q, r⟩
  | _ :: _, _, _, _, _, h, hq => Tri.mono h fun e fr' H' q => q.imp (fun ⟨a, b⟩ => ⟨a, TriL.mono b hq⟩) (fun ⟨a, b⟩ => ⟨a, hq _ _ _ b⟩)
theorem TriL.append : ∀ {l m : List Code} {fr : AFr} {H : AHeap} {Q : TQ}, TriL E P I ro (l ++ m) fr H Q → TriL E P I ro l fr H fun e fr' H' => (e = .normal ∧ TriL E P I ro m fr' H' Q) ∨ (e ≠ .normal ∧ Q e fr' H')
  | [], _, _, _, _, h => TriL.nil (.inl ⟨rfl, h⟩)
  | _ :: _, _, _, _, _, h => Tri.mono h fun e fr' H' q => by
    rcases q with ⟨a, b⟩ | ⟨a, b⟩
    · exact .inl ⟨a, TriL.append b⟩
    · exact .inr ⟨a, .inr ⟨a, b⟩⟩
theorem tri_of_triL : ∀ (c : Code) {fr : AFr} {H : AHeap} {Q : TQ}, TriL E P I ro (flat c) fr H Q → Tri E P I ro c fr H Q := by
  have one : ∀ {c : Code} {fr : AFr} {H : AHeap} {Q : TQ}, TriL E P I ro [c] fr H Q → Tri E P I ro c fr H Q := by
    intro c fr H Q h M w a st hf
    refine wpIn_mono (h M w a st hf) ?_
    rintro ex a1 w1 ⟨e, fr1, H1, M1, q, s1, er, f1⟩
    rcases q with ⟨rfl, q⟩ | ⟨_, q⟩
    · simp only [ERel] at er; subst er
      exact q M1 w1 a1 s1 f1
    · exact ⟨e, fr1, H1, M1, q, s1, er, f1⟩
  intro c
  induction c with
  | seq a b iha ihb =>
    intro fr H Q h
    exact Tri.seq (iha ((TriL.append h).mono fun e fr' H' q => q.imp (fun ⟨x, y⟩ => ⟨x, ihb y⟩) id))
  | _ => intro fr H Q h; exact one h
theorem TriL.ren (hI : Carried I) {l : List Code} {keep : List Nat} {fr fr' : AFr} {H H' : AHeap} {Q : TQ} (r : Ren E.ng keep fr H fr' H') (h : TriL E P I ro l fr' H' Q) : TriL E P I ro l fr H Q := by
  cases l with
  | nil =>
    intro M w a st hf
    obtain ⟨M', s2, f2⟩ := r.to hI st hf
    exact h M' w a s2 f2
  | cons c cs => exact Tri.ren hI r h
theorem TriL.run (hE : EnvOk E P I) (hs : Sound E P I ih) : ∀ {l m : List Code} {fr : AFr} {H : AHeap} {e : AExit} {fr' : AFr} {H' : AHeap} {Q : TQ}, codeL E ih l fr H = some (.code e fr' H') → ((e = .normal ∧ TriL E P I ro m fr' H' Q) ∨ (e ≠ .normal ∧ Q e fr' H')) → TriL E P I ro (l ++ m) fr H Q
  | [], m, fr, H, e, fr', H', Q, h, hq => by
    simp only [codeL, Option.some.injEq, TRes.code.injEq] at h
    obtain ⟨rfl, rfl, rfl⟩ := h
    rcases hq with ⟨_, h⟩ | ⟨h, _⟩
    · exact h
    · exact absurd rfl h
  | c :: l, m, fr, H, e, fr', H', Q, h, hq => by
    simp only [codeL] at h
    split at h
    · rename_i fr1 H1 hc
      exact Tri.run hE hs hc (.inl ⟨rfl, TriL.run hE hs h hq⟩)
    · rename_i hne
      have hen : e ≠ .normal := fun he => by subst he; exact hne _ _ h
      rcases hq with ⟨h1, _⟩ | ⟨_, h1⟩
      · exact absurd h1 hen
      · exact Tri.run hE hs h (.inr ⟨hen, h1⟩)
end
theorem robj_plain {keep : List Nat} {n : Nat} {t : Tr AV} {e : TypeId} {g : Option Nat} {fz : Nat} {ro mk : Bool} (h : PlainT t) : RObj 0 keep (.cells n t e g fz ro mk) (.cells n t e g fz ro mk) := ⟨t, rfl, fun i y hy => ⟨y, hy, h i y hy 0 keep⟩⟩
end
end Go.Vai
end
section
namespace Go.Vai
noncomputable section
def lf (e : AExit) (n : Nat) (vs : List (Option AV)) (os : List (Option AObj)) : Option Leaf := some ⟨e, n, false, true, true, vs, os⟩
def at1 (k : Nat) : Nat := Nat.add 0 (Nat.mul k 1)
theorem at1_eq (k : Nat) : at1 k = k := by simp [at1]
def pr (k : Nat) : Int := wrapR .i64 ((Int.ofNat k).sub (Int.ofNat 1))
def up (k : Nat) : Int := wrapR .i64 (Int.ofNat k.succ)
theorem wrapR_small {k : Nat} (h : k < 2 ^ 62) : wrapR .i64 (.ofNat k) = .ofNat k := by
  have : inR .i64 (.ofNat k) = true := by
    show Nat.blt k _ = true
    rw [Nat.blt_eq]
    refine Nat.lt_of_lt_of_le h ?_
    decide
  unfold wrapR
  rw [this]; rfl
theorem up_eq {k : Nat} (h : k < 2 ^ 61) : up k = .ofNat (k + 1) := wrapR_small (by omega)
theorem blt_t {a b : Nat} (h : a < b) : Nat.blt a b = true := by rw [Nat.blt_eq]; exact h
theorem blt_f {a b : Nat} (h : ¬ a < b) : Nat.blt a b = false := by
  cases e : Nat.blt a b with
  | false => rfl
  | true => rw [Nat.blt_eq] at e; exact absurd e h
theorem ble_t {a b : Nat} (h : a ≤ b) : Nat.ble a b = true := by rw [Nat.ble_eq]; exact h
theorem ble_f {a b : Nat} (h : ¬ a ≤ b) : Nat.ble a b = false := by
  cases e : Nat.ble a b with
  | false => rfl
  | true => rw [Nat.ble_eq] at e; exact absurd e h
theorem beq_t {a b : Nat} (h : a = b) : Nat.beq a b = true := by rw [Nat.beq_eq]; exact h
theorem beq_f {a b : Nat} (h : ¬ a = b) : Nat.beq a b = false := by
  cases e : Nat.beq a b with
  | false => rfl
  | true => rw [Nat.beq_eq] at e; exact absurd e h
section
variable {E : Env} {P : Program} {I : List MEnt → AHeap → World → Prop} {ro : Option Nat}
theorem TriL.leafC (hE : EnvOk E P I) {cl : Cl Leaf} {d : Nat} (hc : ClOk cl (Go.Vai.run E d)) {l : List Code} {fr : AFr} {H : AHeap} {S keep : List Nat} {e : AExit} {n : Nat} {vs : List AV} {os os2 : List AObj} {Q : TQ}
    (h : codesKK E cl l (leafK E.ng S keep) fr H = lf e n (vs.map some) (os.map some)) (hk : keepOk E.ng keep = true) (hl : os2.length = os.length) (hkl : keep.length = E.ng + os.length)
    (hr : ∀ (j : Nat) o o2, os[j]? = some o → os2[j]? = some o2 → RObj 0 keep o o2) (hm : ∀ fr' H', Ren E.ng keep fr' H' (mkFr n S vs) (mkH E.ng os2) → Q e fr' H') : TriL E P I ro l fr H Q := by
  obtain ⟨e1, fr', H', e2, e3⟩ := codesKK_some hc l _ fr H _ h
  obtain ⟨rfl, ren⟩ := ren_of_leaf e3 hk hl hkl hr
  have := TriL.run (m := []) hE (sound_run hE _) (ro := ro) (Q := Q) e2 (by
    cases e1 with
    | normal => exact .inl ⟨rfl, TriL.nil (hm _ _ ren)⟩
    | _ => exact .inr ⟨(by intro h; cases h), hm _ _ ren⟩)
  rwa [List.append_nil] at this
theorem TriL.leafXC (hE : EnvOk E P I) (hI : Carried I) {cl : Cl Leaf} {d : Nat} (hc : ClOk cl (Go.Vai.run E d)) {l m : List Code} {fr : AFr} {H : AHeap} {S keep : List Nat} {e : AExit} {n : Nat} {vs : List AV} {os os2 : List AObj} {Q : TQ}
    (h : codesKK E cl l (leafK E.ng S keep) fr H = lf e n (vs.map some) (os.map some)) (hk : keepOk E.ng keep = true) (hl : os2.length = os.length) (hkl : keep.length = E.ng + os.length)
    (hr : ∀ (j : Nat) o o2, os[j]? = some o → os2[j]? = some o2 → RObj 0 keep o o2)
    (hm : (e = .normal ∧ TriL E P I ro m (mkFr n S vs) (mkH E.ng os2) Q) ∨ (e ≠ .normal ∧ ∀ fr' H', Ren E.ng keep fr' H' (mkFr n S vs) (mkH E.ng os2) → Q e fr' H')) : TriL E P I ro (l ++ m) fr H Q := by
  obtain ⟨e1, fr', H', e2, e3⟩ := codesKK_some hc l _ fr H _ h
  obtain ⟨rfl, ren⟩ := ren_of_leaf e3 hk hl hkl hr
  refine TriL.run hE (sound_run hE _) e2 ?_
  rcases hm with ⟨rfl, hm⟩ | ⟨hne, hm⟩
  · exact .inl ⟨rfl, TriL.ren hI ren hm⟩
  · exact .inr ⟨hne, hm _ _ ren⟩
theorem Tri.leafC (hE : EnvOk E P I) {cl : Cl Leaf} {d : Nat} (hc : ClOk cl (Go.Vai.run E d)) {c : Code} {fr : AFr} {H : AHeap} {S keep : List Nat} {e : AExit} {n : Nat} {vs : List AV} {os os2 : List AObj} {Q : TQ}
    (h : codeKK E cl c (leafK E.ng S keep) fr H = lf e n (vs.map some) (os.map some)) (hk : keepOk E.ng keep = true) (hl : os2.length = os.length) (hkl : keep.length = E.ng + os.length)
    (hr : ∀ (j : Nat) o o2, os[j]? = some o → os2[j]? = some o2 → RObj 0 keep o o2) (hm : ∀ fr' H', Ren E.ng keep fr' H' (mkFr n S vs) (mkH E.ng os2) → Q e fr' H') : Tri E P I ro c fr H Q := by
  obtain ⟨e1, fr', H', e2, e3⟩ := codeKK_some hc c _ fr H _ h
  obtain ⟨rfl, ren⟩ := ren_of_leaf e3 hk hl hkl hr
  exact Tri.run hE (sound_run hE _) e2 (hm _ _ ren)
theorem TriL.leafE (hE : EnvOk E P I) {d : Nat} {l : List Code} {fr : AFr} {H : AHeap} {S keep : List Nat} {e : AExit} {n : Nat} {vs : List AV} {os os2 : List AObj} {Q : TQ}
    (h : codesKK E (callKK E d) l (leafK E.ng S keep) fr H = lf e n (vs.map some) (os.map some)) (hk : keepOk E.ng keep = true) (hl : os2.length = os.length) (hkl : keep.length = E.ng + os.length)
    (hr : ∀ (j : Nat) o o2, os[j]? = some o → os2[j]? = some o2 → RObj 0 keep o o2) (hm : ∀ fr' H', Ren E.ng keep fr' H' (mkFr n S vs) (mkH E.ng os2) → Q e fr' H') : TriL E P I ro l fr H Q := TriL.leafC hE (callKK_ok E d) h hk hl hkl hr hm
theorem TriL.leafX (hE : EnvOk E P I) (hI : Carried I) {d : Nat} {l m : List Code} {fr : AFr} {H : AHeap} {S keep : List Nat} {e : AExit} {n : Nat} {vs : List AV} {os os2 : List AObj} {Q : TQ}
    (h : codesKK E (callKK E d) l (leafK E.ng S keep) fr H = lf e n (vs.map some) (os.map some)) (hk : keepOk E.ng keep = true) (hl : os2.length = os.length) (hkl : keep.length = E.ng + os.length)
    (hr : ∀ (j : Nat) o o2, os[j]? = some o → os2[j]? = some o2 → RObj 0 keep o o2)
    (hm : (e = .normal ∧ TriL E P I ro m (mkFr n S vs) (mkH E.ng os2) Q) ∨ (e ≠ .normal ∧ ∀ fr' H', Ren E.ng keep fr' H' (mkFr n S vs) (mkH E.ng os2) → Q e fr' H')) : TriL E P I ro (l ++ m) fr H Q := TriL.leafXC hE hI (callKK_ok E d) h hk hl hkl hr hm
theorem Tri.leafE (hE : EnvOk E P I) {d : Nat} {c : Code} {fr : AFr} {H : AHeap} {S keep : List Nat} {e : AExit} {n : Nat} {vs : List AV} {os os2 : List AObj} {Q : TQ}
    (h : codeKK E (callKK E d) c (leafK E.ng S keep) fr H = lf e n (vs.map some) (os.map some)) (hk : keepOk E.ng keep = true) (hl : os2.length = os.length) (hkl : keep.length = E.ng + os.length)
    (hr : ∀ (j : Nat) o o2, os[j]? = some o → os2[j]? = some o2 → RObj 0 keep o o2) (hm : ∀ fr' H', Ren E.ng keep fr' H' (mkFr n S vs) (mkH E.ng os2) → Q e fr' H') : Tri E P I ro c fr H Q := Tri.leafC hE (callKK_ok E d) h hk hl hkl hr hm
end
def BT (T : Tr AV) : Prop := ∀ i v, T.get i = some v → ∃ b, v = .bool b
theorem BT.plain {T : Tr AV} (h : BT T) : PlainT T := fun i v hv => by
  obtain ⟨b, rfl⟩ := h i v hv
  intro _ _; rfl
def RowIs (N : Nat) (T : Tr AV) (F : Nat → Bool) : Prop := BT T ∧ ∀ k, k < N → T.get k = some (.bool (F k))
theorem RowIs.put {N : Nat} {T : Tr AV} {F G : Nat → Bool} {k : Nat} {b : Bool} (h : RowIs N T F) (hN : N ≤ 1000000) (hk : k < N) (hb : b = G k) (hG : ∀ j, j < N → j ≠ k → F j = G j) : RowIs N (T.putAll k [.bool b]) G := by
  have e : T.putAll k [.bool b] = T.set k (.bool b) := by rw [Tr.putAll_cons, Tr.putAll_nil]
  rw [e]
  refine ⟨fun i v hv => ?_, fun j hj => ?_⟩
  · rcases Tr.get_set hv with ⟨_, rfl⟩ | ⟨_, h2⟩
    · exact ⟨b, rfl⟩
    · exact h.1 i v h2
  · rw [Tr.get_set_eq T j _ (by omega)]
    split
    · rename_i e; subst e; rw [hb]
    · rename_i e; rw [h.2 j hj, hG j hj e]
end
end Go.Vai
end
section
namespace Go.Vai
noncomputable section
abbrev Sm := Nat → List AV → AHeap → Option (AV × AHeap)
def SmOk (P : Program) (gl : List (Nat × List AV)) (sm : Sm) : Prop := ∀ f args H v H' M w cargs, sm f args H = some (v, H') → GlobOk gl w → HRel M H w → VRels M args cargs → CallsA P f cargs M H w (.ret v H')
def orSm (a b : Sm) : Sm := fun f args H => Option.rec (motive := fun _ => Option (AV × AHeap)) (b f args H) (fun r => some r) (a f args H)
def extSm (kinds : List (Nat × Nat × Nat)) : Sm := fun f args H => match extAt kinds f with
  | some (k, e) => extA k e args H
  | none => none
section
variable {P : Program} {gl : List (Nat × List AV)}
theorem SmOk.or {a b : Sm} (ha : SmOk P gl a) (hb : SmOk P gl b) : SmOk P gl (orSm a b) := by
  intro f args H v H' M w cargs h hw hr hv
  unfold orSm at h
  cases e : a f args H with
  | none => rw [e] at h; exact hb f args H v H' M w cargs h hw hr hv
  | some r =>
    rw [e] at h
    simp only [Option.some.injEq] at h
    subst h
    exact ha f args H v H' M w cargs e hw hr hv
theorem smOk_ext {kinds : List (Nat × Nat × Nat)} (hK : extOk P kinds = true) : SmOk P gl (extSm kinds) := by
  intro f args H v H' M w cargs h _ hr ha
  unfold extSm at h
  split at h
  · rename_i k e hk
    exact ext_sound hK hk h hr ha
  · cases h
theorem envOk_sm {ng : Nat} {skip : List Nat} {sm : Sm} {I : List MEnt → AHeap → World → Prop} (hN : namesOk skip P.funcs.toList 0 = true) (hS : SmOk P gl sm) (hM : P.follows .mixedOrders = true)
    (hX : ∀ M H w, I M H w → GlobOk gl w) (hI : ∀ M H w M' H' w', I M H w → Ext M H w M' H' w' → I M' H' w') : EnvOk (envOf P ng skip sm) P I where
  tys := tysOk_of P ng skip _
  fns := fnsOk_of hN
  carry := hI
  mixed := hM
  sm := fun f args H v H' M w cargs _ h st ha => hS f args H v H' M w cargs h (hX _ _ _ st.i) st.hr ha
end
structure Obj1 where
  n : Nat
  e : Nat
  g : Option Nat
  fz : Nat
  ro : Bool
  mr : Bool
  vs : List (Option AV)
def getO (t : Tr AV) (k n : Nat) : List (Option AV) := Nat.rec (motive := fun _ => Nat → List (Option AV)) (fun _ => []) (fun _ ih k => t.get k :: ih (Nat.succ k)) n k
def packO : Option AObj → Option Obj1
  | some (.cells n t e g fz ro mk) => some ⟨n, e, g, fz, ro, mk, getO t 0 n⟩
  | _ => none
def pack (keep : List Nat) : Option TRes → Option (AV × List (Option Obj1))
  | some (.call (.ret v H)) => some (v, keep.map fun i => packO (H.get i))
  | _ => none
def putO (b : Nat) (keep : List Nat) : List (Option AV) → Nat → Tr AV
  | [], _ => .nil
  | x :: r, k => match x.bind (rnV b keep) with
    | some y => (putO b keep r (k + 1)).set k y
    | none => putO b keep r (k + 1)
def mkO (b : Nat) (keep : List Nat) (x : Obj1) : AObj := .cells x.n (putO b keep x.vs 0) x.e x.g x.fz x.ro x.mr
theorem getO_at : ∀ (n : Nat) (t : Tr AV) (k j : Nat) (x : AV), (getO t k n)[j]? = some (some x) → t.get (k + j) = some x
  | 0, t, k, j, x, h => by
    have h' : ([] : List (Option AV))[j]? = some (some x) := h
    simp at h'
  | n + 1, t, k, 0, x, h => by
    have h' : (t.get k :: getO t (k + 1) n)[0]? = some (some x) := h
    simpa using h'
  | n + 1, t, k, j + 1, x, h => by
    have h' : (t.get k :: getO t (k + 1) n)[j + 1]? = some (some x) := h
    have := getO_at n t (k + 1) j x (by simpa using h')
    rwa [show k + (j + 1) = k + 1 + j by omega]
theorem putO_get {b : Nat} {keep : List Nat} : ∀ (vs : List (Option AV)) (k i : Nat) (y : AV), (putO b keep vs k).get i = some y → ∃ j x, i = k + j ∧ vs[j]? = some (some x) ∧ rnV b keep x = some y
  | [], k, i, y, h => by simp [putO, Tr.get_nil] at h
  | x :: r, k, i, y, h => by
    have tail : (putO b keep r (k + 1)).get i = some y → ∃ j z, i = k + j ∧ (x :: r)[j]? = some (some z) ∧ rnV b keep z = some y := fun h => by
      obtain ⟨j, z, e, h1, h2⟩ := putO_get r (k + 1) i y h
      exact ⟨j + 1, z, by omega, by simpa using h1, h2⟩
    simp only [putO] at h
    split at h
    · rename_i z hz
      rcases Tr.get_set h with ⟨rfl, rfl⟩ | ⟨_, h⟩
      · obtain ⟨a, rfl, ha⟩ := Option.bind_eq_some_iff.1 hz
        exact ⟨0, a, rfl, rfl, ha⟩
      · exact tail h
    · exact tail h
theorem mkO_robj {b : Nat} {keep : List Nat} {o : AObj} {x : Obj1} (h : packO (some o) = some x) : RObj b keep o (mkO b keep x) ∧ o.isRo = x.ro := by
  unfold packO at h
  split at h
  · rename_i n t e g fz ro mk he
    cases he
    simp only [Option.some.injEq] at h
    subst h
    refine ⟨⟨putO b keep (getO t 0 n) 0, rfl, fun i y hy => ?_⟩, rfl⟩
    obtain ⟨j, z, rfl, h1, h2⟩ := putO_get _ _ _ _ hy
    exact ⟨z, getO_at n t 0 j z h1, h2⟩
  · cases h
structure Done where
  f : Nat
  args : List AV
  keep : List Nat
  v : AV
  os : List Obj1
def eqPlain : AV → AV → Bool
  | .str a, .str b => leq a b
  | .int j a, .int k b => sameKind j k && ieq a b
  | .bool a, .bool b => a == b
  | _, _ => false
theorem eqPlain_iff {x y : AV} (h : eqPlain x y = true) : x = y := by
  unfold eqPlain at h
  split at h
  · rw [leq_iff] at h; simp at h; rw [h]
  · rw [Bool.and_eq_true, sameKind_iff, ieq_iff] at h; simp at h; rw [h.1, h.2]
  · simp at h; rw [h]
  · cases h
def eqPlains : List AV → List AV → Bool
  | [], [] => true
  | a :: asz, b :: bs => eqPlain a b && eqPlains asz bs
  | _, _ => false
theorem eqPlains_iff : ∀ {l m : List AV}, eqPlains l m = true → l = m
  | [], [], _ => rfl
  | [], _ :: _, h => by simp [eqPlains] at h
  | _ :: _, [], h => by simp [eqPlains] at h
  | a :: asz, b :: bs, h => by
    simp only [eqPlains, Bool.and_eq_true] at h
    rw [eqPlain_iff h.1, eqPlains_iff h.2]
def closedSm (c : Done) : Sm := fun f args H => bif Nat.beq f c.f && eqPlains c.args args then (match rnV H.next c.keep c.v with
  | some u => some (u, news H (c.os.map (mkO H.next c.keep)))
  | none => none) else none
section
variable {P : Program} {gl : List (Nat × List AV)}
theorem body_closed {E : Env} {f : FuncId} {args : List AV} {cargs : List Value} {n : Nat} {v : AV} {H1 : AHeap} (hE : ∀ w, GlobOk gl w → EnvOk E P (Kept gl w)) (hgl : (gl.all fun x => Nat.blt x.1 E.ng) = true) (hf : (E.fn f).isSome = true)
    (ha : VRels (mGlob E.ng 0) args cargs) (h : run E n (.call f args (gHeap E.ng gl)) = some (.call (.ret v H1))) : BodyTo P gl f cargs fun x H => x = v ∧ H = H1 := by
  intro w hw
  obtain ⟨fn, hfn⟩ := Option.isSome_iff_exists.1 hf
  have hr : HRel (mGlob E.ng 0) (gHeap E.ng gl) w := gHeap_rel (mGlob_len _ _) fun g av hm => by
    have hg : g < E.ng := by
      have := List.all_eq_true.1 hgl _ hm
      simpa using this
    exact ⟨hg, by rw [mGlob_get _ 0 g hg]; simp, hw g av hm⟩
  have kp : Kept gl w (mGlob E.ng 0) (gHeap E.ng gl) w := ⟨hw, Keeps.refl w, fun b _ ⟨id, o, m, e, r, _⟩ => by rw [gHeap_ro _ _ id o e] at r; cases r⟩
  have := callsA_enters (hE w hw) hfn (run_sound (hE w hw) h ⟨hr, grel_glob E, kp⟩ ha)
  refine ⟨this.1, CallsIn.mono this.2 ?_⟩
  intro e w' hp
  cases e with
  | outgrown => exact hp.elim
  | panicked ch => obtain ⟨_, _, _, _, e, _⟩ := hp; cases e
  | returned cv =>
    obtain ⟨v2, H2, M', e, x1, x2, x3⟩ := hp
    cases e
    exact ⟨cv, v, H1, M', rfl, x2, (kept_carried hw).ext _ _ _ _ _ _ kp x1, x3, rfl, rfl⟩
theorem VRels.anyPlain {args : List AV} (h : ∀ v ∈ args, Plain v) {M : List MEnt} {cargs : List Value} (ha : VRels M args cargs) (M' : List MEnt) : VRels M' args cargs := by
  have hr : ∀ (l : List AV), (∀ v ∈ l, Plain v) → rnVs 0 [] l = some l := by
    intro l
    induction l with
    | nil => intro _; rfl
    | cons a l ih => intro h; simp only [rnVs, h a List.mem_cons_self 0 [], ih fun v hv => h v (List.mem_cons_of_mem _ hv)]
  exact rnVs_rel (b := 0) (keep := []) (fun k i hk => by simp at hk) args args cargs (hr args h) ha
theorem closed_ok {E : Env} {c : Done} {n : Nat} (hE : ∀ w, GlobOk gl w → EnvOk E P (Kept gl w)) (hgl : (gl.all fun x => Nat.blt x.1 E.ng) = true) (hf : (E.fn c.f).isSome = true)
    (hp : ∀ v ∈ c.args, Plain v) (h : pack c.keep (run E n (.call c.f c.args (gHeap E.ng gl))) = some (c.v, c.os.map some)) (hk : c.keep.Nodup) (hro : (c.os.all fun o => !o.ro) = true) : SmOk P gl (closedSm c) := by
  intro f args H v H' M w cargs hs hw hr ha
  unfold closedSm at hs
  cases hb : Nat.beq f c.f && eqPlains c.args args with
  | false => rw [hb] at hs; cases hs
  | true =>
    rw [hb] at hs
    simp only [cond_true] at hs
    rw [Bool.and_eq_true, Nat.beq_eq] at hb
    obtain ⟨rfl, hb⟩ := hb
    have := eqPlains_iff hb
    subst this
    split at hs
    case h_2 => cases hs
    rename_i u hu
    simp only [Option.some.injEq, Prod.mk.injEq] at hs
    obtain ⟨rfl, rfl⟩ := hs
    unfold pack at h
    split at h
    case h_2 => cases h
    rename_i v1 H1 hrun
    simp only [Option.some.injEq, Prod.mk.injEq] at h
    obtain ⟨rfl, h2⟩ := h
    refine BodyTo.calls (body_closed hE hgl hf (VRels.anyPlain hp ha _) hrun) hw hr ?_
    rintro v2 H2 ⟨rfl, rfl⟩
    have hl : c.os.length = c.keep.length := by have := congrArg List.length h2; simpa using this.symm
    refine ⟨c.keep, hk, by simpa using hl, hu, fun j x hx => ?_⟩
    rw [List.getElem?_map] at hx
    obtain ⟨o, ho, rfl⟩ := Option.map_eq_some_iff.1 hx
    have hj : j < c.os.length := (List.getElem?_eq_some_iff.1 ho).1
    have h3 := congrArg (·[j]?) h2
    simp only [List.getElem?_map, ho, Option.map_some] at h3
    obtain ⟨i, hi, h4⟩ := Option.map_eq_some_iff.1 h3
    cases hg : H2.get i with
    | none => rw [hg] at h4; cases h4
    | some p =>
      rw [hg] at h4
      obtain ⟨r1, r2⟩ := mkO_robj (b := H.next) (keep := c.keep) h4
      refine ⟨i, p, hi, hg, r1, ?_⟩
      rw [r2]
      have := List.all_eq_true.1 hro o (List.mem_of_getElem? ho)
      simpa using this
theorem plain_str (s : List UInt8) : Plain (.str s) := fun _ _ => rfl
theorem plain_int (k : IntKind) (n : Int) : Plain (.int k n) := fun _ _ => rfl
end
def retSm (f : Nat) (b : Bool) : Sm := fun g args H => match args with
  | [] => bif Nat.beq g f then some (.bool b, H) else none
  | _ => none
theorem smOk_ret {P : Program} {gl : List (Nat × List AV)} {f : Nat} {b : Bool} (h : ∀ w, GlobOk gl w → (callFunc f #[]).run P w = .ok (.enter f #[]) w ∧ Calls P f #[] w fun e w' => e = .returned (.bool b) ∧ Keeps w w') : SmOk P gl (retSm f b) := by
  intro g args H v H' M w cargs hs hw hr ha
  unfold retSm at hs
  split at hs
  case h_2 => cases hs
  cases hb : Nat.beq g f with
  | false => rw [hb] at hs; cases hs
  | true =>
    rw [hb] at hs
    simp only [cond_true, Option.some.injEq, Prod.mk.injEq] at hs
    obtain ⟨rfl, rfl⟩ := hs
    rw [Nat.beq_eq] at hb
    subst hb
    match cargs, ha with
    | [], _ =>
      obtain ⟨h1, h2⟩ := h w hw
      refine .inr ⟨h1, callsIn_wide.2 (h2.mono fun e w' ⟨he, hk⟩ => ?_)⟩
      subst he
      obtain ⟨x1, x2⟩ := hk.ext hr
      exact ⟨_, _, M, rfl, x1, x2, rfl⟩
def orSmk {α : Type} (a b : Smk α) (c : FuncId → Bool) : Smk α := fun f args H k => bc (c f) (a f args H k) (b f args H k)
theorem SmkOk.or {α : Type} {E : Env} {a b : Smk α} {c : FuncId → Bool} (ha : ∀ f args H k r, c f = true → a f args H k = some r → ∃ v H', E.sm f args H = some (v, H') ∧ k v H' = some r) (hb : SmkOk E b) : SmkOk E (orSmk a b c) := by
  intro f args H k r h
  unfold orSmk at h
  cases hc : c f with
  | true => rw [hc] at h; exact ha f args H k r hc h
  | false => rw [hc] at h; exact hb f args H k r h
theorem ren_start {ng : Nat} {gl : List (Nat × List AV)} {fn : AFunc} {args : List AV} (ha : ∀ v ∈ args, Plain v) : Ren ng (List.range ng) (newFr fn args) (gHeap ng gl) (newFr fn args) (mkH ng []) where
  glob := fun g hg => by simp [hg]
  lt := fun i hi => by rw [gHeap_next]; simpa using hi
  nodup := List.nodup_range
  next := by simp [mkH, news]
  obj := fun k u h => by obtain ⟨_, _, hj⟩ := mkH_get h; simp at hj
  n := rfl
  rd := rfl
  df := ⟨rfl, rfl⟩
  t := fun i y hy => by
    refine ⟨y, hy, ?_⟩
    rcases Tr.get_putAll _ hy with ⟨q, rfl, hq⟩ | ⟨_, hu⟩
    · exact ha y (List.mem_of_getElem? hq) 0 _
    · simp [Tr.get_nil] at hu
end
end Go.Vai
end
section
namespace Go.Vai
noncomputable section
section
variable {P : Program} {M : List MEnt} {H : AHeap} {w : World} {gl : List (Nat × List AV)}
def jK : TRes → Orc → Option AV
  | .call (.ret v _), _ => rnV 0 [] v
  | _, _ => none
end
end
end Go.Vai
end
section
namespace Go.Vai
open Go.RowKit
section
variable {H : Type} {enc : TypeId × Value → H} {P : Program} {w : World} {base : Nat} {spare : Nat → Bool} {held : Bool}
def ShapesN (ks : List CK) (n : Nat) (vs : List AV) : Prop := vs.length = n * ks.length ∧ ∀ i, i < n → Shapes ks ((vs.drop (i * ks.length)).take ks.length)
end
end Go.Vai
end
section
namespace Go.Vai
noncomputable section
inductive RA where
  | nil
  | none0
  | row (len cap q : Nat) (T : Tr AV)
def RA.av (id : Nat) : RA → AV
  | .nil => .nils
  | .none0 => .sl0
  | .row len cap _ _ => .sl id 0 len (some cap)
def RA.obj : RA → AObj
  | .nil => .cells 0 .nil 0 none 0 true false
  | .none0 => .cells 0 .nil 0 none 0 true false
  | .row len _ q T => .cells (len * q) T 0 none 0 true false
def RA.len : RA → Nat
  | .nil => 0
  | .none0 => 0
  | .row len _ _ _ => len
def rowT (vs : List AV) : Tr AV := Tr.nil.putAll 0 (vs.take 100000)
section
variable {H : Type} {enc : TypeId × Value → H} {P : Program} {w : World} {base : Nat} {spare : Nat → Bool} {held : Bool}
def RA.Ok (ks : List CK) : RA → Prop
  | .row len _ q T => q = ks.length ∧ 0 < len ∧ ∃ vs, ShapesN ks len vs ∧ T = rowT vs
  | _ => True
end
section
variable {P : Program} {E : Env} {gl : List (Nat × List AV)} {w : World}
theorem start_rel {ng : Nat} {ex : List MEnt} {os : List AObj} (hl : ex.length = os.length) (hro : ∀ o ∈ os, o.isRo = true) (ho : ∀ (j : Nat) m o, ex[j]? = some m → os[j]? = some o → ORel [] m w o) : HRel (mGlob ng 0 ++ ex) (mkH ng os) w := by
  have at_ : ∀ j, (mGlob ng 0 ++ ex)[ng + j]? = ex[j]? := fun j => by
    rw [List.getElem?_append_right (by rw [mGlob_len]; omega), mGlob_len]; congr 1; omega
  refine ⟨?_, fun id o h => ?_, fun i j o p m k hi hj _ _ _ _ => ?_⟩
  · have e : (mkH ng os).next = ng + os.length := news_next os _
    rw [e, List.length_append, mGlob_len, hl]
  · obtain ⟨j, rfl, hj⟩ := mkH_get h
    have hjl := (List.getElem?_eq_some_iff.1 hj).1
    obtain ⟨m, hm⟩ : ∃ m, ex[j]? = some m := ⟨_, List.getElem?_eq_getElem (by omega)⟩
    exact ⟨m, by rw [at_, hm], (ho j m o hm hj).carry List.nil_prefix rfl⟩
  · obtain ⟨a, _, ha⟩ := mkH_get hi
    obtain ⟨b, _, hb⟩ := mkH_get hj
    exact ⟨hro o (List.mem_of_getElem? ha), hro p (List.mem_of_getElem? hb)⟩
end
end
end Go.Vai
end
section
namespace Go.Vai
noncomputable section
mutual
theorem rnV_nil (b : Nat) : ∀ v : AV, rnV b [] v = rnV 0 [] v
  | .ptr _ _ => rfl
  | .sl _ _ _ _ => rfl
  | .yld _ => rfl
  | .mapv _ => rfl
  | .nilm => rfl
  | .opq _ => rfl
  | .ext _ _ _ _ _ _ => rfl
  | .fn f x y => by simp only [rnV, rnVs_nil b x, rnVs_nil b y]
  | .iface t x => by simp only [rnV, rnV_nil b x]
  | .agg l => by simp only [rnV, rnVs_nil b l]
  | .tup l => by simp only [rnV, rnVs_nil b l]
  | .bool _ => rfl
  | .int _ _ => rfl
  | .str _ => rfl
  | .nilp => rfl
  | .nils => rfl
  | .sl0 => rfl
  | .nilf => rfl
  | .nili => rfl
theorem rnVs_nil (b : Nat) : ∀ v : List AV, rnVs b [] v = rnVs 0 [] v
  | [] => rfl
  | v :: vs => by simp only [rnVs, rnV_nil b v, rnVs_nil b vs]
end
def plainSm (F : Nat → List AV → Option AV) : Sm := fun f args H => Option.rec (motive := fun _ => Option (AV × AHeap)) none (fun v => some (v, H)) (F f args)
section
variable {P : Program} {gl : List (Nat × List AV)}
theorem plain_okS {F : Nat → List AV → Option AV}
    (hF : ∀ f args v, F f args = some v → ∃ (E : Env) (n : Nat) (s : Smk AV), SmkOk E s ∧ (∀ w, GlobOk gl w → EnvOk E P (Kept gl w)) ∧ (gl.all fun x => Nat.blt x.1 E.ng) = true ∧ (E.fn f).isSome = true ∧ (∀ a ∈ args, Plain a) ∧ ∃ o, callPS E s noPin n (.call f args (gHeap E.ng gl)) o jK = some v) : SmOk P gl (plainSm F) := by
  intro f args H v H' M w cargs hs hw hr ha
  unfold plainSm at hs
  cases hF' : F f args with
  | none => rw [hF'] at hs; cases hs
  | some u =>
    rw [hF'] at hs
    have hs : some (u, H) = some (v, H') := hs
    simp only [Option.some.injEq, Prod.mk.injEq] at hs
    obtain ⟨rfl, rfl⟩ := hs
    obtain ⟨E, n, s, hs, hE, hgl, h1, h2, o, h3⟩ := hF f args _ hF'
    obtain ⟨x, o', e, hk⟩ := callPS_ok E hs noPin n _ _ _ _ h3
    cases x with
    | code a b c => cases hk
    | dcall a => cases hk
    | call c =>
      cases c with
      | pan v H => cases hk
      | ret v1 H1 =>
        have hk : rnV 0 [] v1 = some u := hk
        refine BodyTo.calls (os := []) (body_closed hE hgl h1 (VRels.anyPlain h2 ha _) e) hw hr ?_
        rintro v2 H2 ⟨rfl, rfl⟩
        exact ⟨[], List.nodup_nil, rfl, by rw [rnV_nil]; exact hk, fun j x hx => by simp at hx⟩
theorem plain_ok {F : Nat → List AV → Option AV}
    (hF : ∀ f args v, F f args = some v → ∃ (E : Env) (n : Nat), (∀ w, GlobOk gl w → EnvOk E P (Kept gl w)) ∧ (gl.all fun x => Nat.blt x.1 E.ng) = true ∧ (E.fn f).isSome = true ∧ (∀ a ∈ args, Plain a) ∧ ∃ o, callP E n (.call f args (gHeap E.ng gl)) o jK = some v) : SmOk P gl (plainSm F) :=
  plain_okS fun f args v h => by
    obtain ⟨E, n, a, b, c, d, o, e⟩ := hF f args v h
    exact ⟨E, n, _, smC_ok E, a, b, c, d, o, e⟩
end
theorem get_setB {α : Type} (t : Tr α) {i : Nat} (j : Nat) (v : α) (h : i < 2 ^ 47) : (t.set i v).get j = if j = i then some v else t.get j := Tr.getF_eq 48 t i j (some v) (by omega)
theorem get_putAllB {α : Type} : ∀ (vs : List α) (t : Tr α) (k j : Nat), k + vs.length ≤ 2 ^ 47 → (t.putAll k vs).get j = if k ≤ j ∧ j < k + vs.length then vs[j - k]? else t.get j
  | [], t, k, j, _ => by rw [if_neg (by simp only [List.length_nil]; omega)]; rfl
  | v :: vs, t, k, j, h => by
    simp only [List.length_cons] at h ⊢
    show ((t.set k v).putAll (k + 1) vs).get j = _
    rw [get_putAllB vs _ _ _ (by omega), get_setB _ _ _ (by omega)]
    by_cases h1 : j = k
    · subst h1
      rw [if_neg (by omega), if_pos rfl, if_pos (by omega), Nat.sub_self]; rfl
    · rw [if_neg h1]
      by_cases h2 : k + 1 ≤ j ∧ j < k + 1 + vs.length
      · rw [if_pos h2, if_pos (by omega), show j - k = (j - (k + 1)) + 1 by omega, List.getElem?_cons_succ]
      · rw [if_neg h2, if_neg (by omega)]
section
variable {H : Type} {enc : TypeId × Value → H} {P : Program} {w : World} {base : Nat} {spare : Nat → Bool} {held : Bool}
theorem iface_one {n : Nat} {t : TypeId} {cs : List Value} {x : DataW H × List MemPlace} {ms : Array (String × TypeId)} (hu : P.underlying t = some (.interface ms)) (h : DataW.trod enc P w base spare held n t cs = some x) : VRels [] [.opq none] cs := by
  cases n with
  | zero => simp [DataW.trod] at h
  | succ n =>
    match cs with
    | [] => simp [DataW.trod, hu] at h
    | [v] =>
      cases v with
      | nilIface => exact ⟨⟨fun _ e => (by cases e), fun _ e => (by cases e), fun _ e => (by cases e)⟩, trivial⟩
      | iface u y => exact ⟨⟨fun _ e => (by cases e), fun _ e => (by cases e), fun _ e => (by cases e)⟩, trivial⟩
      | _ => simp [DataW.trod, hu] at h
    | _ :: _ :: _ => simp [DataW.trod, hu] at h
theorem laid_opq {laid : List (String × DataW Unit)} (h : laidMetH P laid w) (hp : (laid.all fun x => x.2.handleName?.isNone) = true) {name : String} {d : DataW Unit} (hm : (name, d) ∈ laid) {g t : Nat} (hg : P.globalNamed name = some g) (ht : (P.globals[g]?).map (·.type) = some t)
    {ms : Array (String × TypeId)} (hu : P.underlying t = some (.interface ms)) : ∃ cs e lo hi, w.heap[g]? = some (.cells cs e (lo, hi)) ∧ VRels [] [.opq none] cs.toList := by
  rw [MakeChecks.laidMetH_plain _ _ _ hp] at h
  obtain ⟨g', t', cs, fuel, p, h1, h2, h3, h4⟩ := Lib.laidMet.reads h hm
  rw [hg] at h1; cases h1
  rw [ht] at h2; cases h2
  have := iface_one hu h4
  unfold World.var? at h3
  rw [hg] at h3
  simp only [Option.bind_some] at h3
  cases hh : w.heap[g]? with
  | none => rw [hh] at h3; cases h3
  | some o =>
    rw [hh] at h3
    cases o with
    | cells cur e fz =>
      simp only [Option.some.injEq] at h3
      subst h3
      obtain ⟨lo, hi⟩ := fz
      exact ⟨_, e, lo, hi, rfl, this⟩
    | _ => simp at h3
end
section
open Go.RowKit
variable {H : Type} {enc : TypeId × Value → H} {P : Program} {w : World} {base : Nat} {spare : Nat → Bool} {held : Bool}
end
end
end Go.Vai
end
section
namespace Go.Vai
noncomputable section
theorem bc_sh {α : Type} {p : α → Bool} {b : Bool} {x y : α} (hx : p x = true) (hy : p y = true) : p (bc b x y) = true := by cases b <;> assumption
def at_ : List Nat → AV → AV
  | [], v => v
  | i :: p, .tup l => at_ p (l.getD i .nilp)
  | i :: p, .agg l => at_ p (l.getD i .nilp)
  | _ :: _, v => v
def bolV : AV → Bool
  | .bool b => b
  | _ => false
def intV : AV → Int
  | .int _ n => n
  | _ => 0
theorem eqb_int (k : IntKind) (n : Int) : AV.eqb (.int k n) (.int k n) = true := by simp [AV.eqb, sameKind, ieq_iff]
theorem eqb_str (s : List UInt8) : AV.eqb (.str s) (.str s) = true := by simp [AV.eqb, leq_iff]
theorem eqb_bool (b : Bool) : AV.eqb (.bool b) (.bool b) = true := by simp [AV.eqb]
mutual
theorem eqb_refl : ∀ v : AV, AV.eqb v v = true
  | .bool b => eqb_bool b
  | .int k n => eqb_int k n
  | .str s => eqb_str s
  | .nilp => rfl
  | .ptr i o => by simp [AV.eqb]
  | .nils => rfl
  | .sl i o n none => by simp [AV.eqb]
  | .sl i o n (some c) => by simp [AV.eqb]
  | .sl0 => rfl
  | .nilf => rfl
  | .fn f x y => by simp only [AV.eqb, eqbs_refl x, eqbs_refl y, Bool.and_self, Nat.beq_refl]
  | .yld i => by simp [AV.eqb]
  | .nili => rfl
  | .iface t v => by simp only [AV.eqb, eqb_refl v, Nat.beq_refl, Bool.and_self]
  | .agg l => by simp only [AV.eqb]; exact eqbs_refl l
  | .tup l => by simp only [AV.eqb]; exact eqbs_refl l
  | .nilm => rfl
  | .mapv i => by simp [AV.eqb]
  | .opq _ => by simp [AV.eqb]
  | .ext _ _ _ _ _ _ => by simp [AV.eqb]
theorem eqbs_refl : ∀ l : List AV, AV.eqb.eqbs l l = true
  | [] => rfl
  | v :: vs => by simp only [AV.eqb.eqbs, eqb_refl v, eqbs_refl vs, Bool.and_self]
end
def plainL : List AV → Bool
  | [] => true
  | .bool _ :: l => plainL l
  | .int _ _ :: l => plainL l
  | .str _ :: l => plainL l
  | .agg c :: l => plainC c && plainL l
  | _ :: _ => false
where plainC : List AV → Bool
  | [] => true
  | .bool _ :: l => plainC l
  | .int _ _ :: l => plainC l
  | .str _ :: l => plainC l
  | _ :: _ => false
theorem plainC_rn : ∀ {l : List AV}, plainL.plainC l = true → ∀ b keep, rnVs b keep l = some l
  | [], _, _, _ => rfl
  | .bool _ :: l, h, b, keep => by simp only [rnVs, rnV, plainC_rn (l := l) h b keep]
  | .int _ _ :: l, h, b, keep => by simp only [rnVs, rnV, plainC_rn (l := l) h b keep]
  | .str _ :: l, h, b, keep => by simp only [rnVs, rnV, plainC_rn (l := l) h b keep]
theorem plain_list : ∀ {l : List AV}, plainL l = true → ∀ a ∈ l, Plain a
  | [], _, a, ha => by cases ha
  | .bool x :: l, h, a, ha => by
    rcases List.mem_cons.1 ha with rfl | ha
    · exact fun _ _ => rfl
    · exact plain_list (l := l) h a ha
  | .int k n :: l, h, a, ha => by
    rcases List.mem_cons.1 ha with rfl | ha
    · exact fun _ _ => rfl
    · exact plain_list (l := l) h a ha
  | .str s :: l, h, a, ha => by
    rcases List.mem_cons.1 ha with rfl | ha
    · exact fun _ _ => rfl
    · exact plain_list (l := l) h a ha
  | .agg c :: l, h, a, ha => by
    have h : (plainL.plainC c && plainL l) = true := h
    rw [Bool.and_eq_true] at h
    rcases List.mem_cons.1 ha with rfl | ha
    · exact fun b keep => by simp only [rnV, plainC_rn h.1 b keep]
    · exact plain_list (l := l) h.2 a ha
theorem putAll_plain {t : Tr AV} (h : PlainT t) {vs : List AV} {k : Nat} (hs : ∀ v ∈ vs, Plain v) : PlainT (t.putAll k vs) := fun i v hv => by
  rcases Tr.get_putAll _ hv with ⟨q, _, hq⟩ | ⟨_, hu⟩
  · exact hs v (List.mem_of_getElem? hq)
  · exact h i v hu
def kPack (keep : List Nat) : TRes → Orc → Option (AV × List (Option Obj1)) := fun x _ => pack keep (some x)
section
variable {P : Program} {gl : List (Nat × List AV)}
end
end
end Go.Vai
end
section
namespace Go.Vai
noncomputable section
def preL : List UInt8 → List UInt8 → Bool
  | [], _ => true
  | _ :: _, [] => false
  | b :: bs, a :: l => bif Nat.beq b.toNat a.toNat then preL bs l else false
def hasL : List UInt8 → List UInt8 → Bool
  | [], sub => preL sub []
  | a :: l, sub => bif preL sub (a :: l) then true else hasL l sub
theorem preL_eq : ∀ b a : List UInt8, preL b a = b.isPrefixOf a
  | [], a => by cases a <;> rfl
  | _ :: _, [] => rfl
  | b :: bs, a :: l => by
    rw [preL, preL_eq bs l]
    show _ = ((b == a) && bs.isPrefixOf l)
    by_cases h : b = a
    · subst h; simp
    · have : Nat.beq b.toNat a.toNat = false := by
        rw [Bool.eq_false_iff]
        intro e
        rw [Nat.beq_eq] at e
        exact h (UInt8.toNat_inj.1 e)
      rw [this, beq_false_of_ne h]
      rfl
theorem hasL_eq : ∀ s sub : List UInt8, hasL s sub = Lib.contains s sub
  | [], sub => by
    unfold Lib.contains Lib.index hasL
    cases sub <;> simp [preL]
  | a :: l, sub => by
    have ih := hasL_eq l sub
    unfold Lib.contains at ih ⊢
    unfold Lib.index hasL
    rw [ih, preL_eq, Bool.cond_eq_ite]
    have h := Lib.index_ge l sub
    by_cases h1 : sub.isPrefixOf (a :: l) = true
    · simp [h1]
    · simp only [h1, Bool.false_eq_true, if_false, beq_iff_eq]
      by_cases h2 : Lib.index l sub = -1
      · simp [h2]
      · rw [if_neg h2]
        congr 1
        apply propext
        constructor <;> intro _ <;> omega
def contSm (f : Nat) : Sm := fun g args H => match args with
  | [.str a, .str b] => bif Nat.beq g f && Nat.blt a.length 4294967281 then some (.bool (hasL a b), H) else none
  | _ => none
theorem glob_int {gl : List (Nat × List AV)} {g : Nat} {k : IntKind} {w : World} (hg : (g, [.opq (some k)]) ∈ gl) (hw : GlobOk gl w) : ∃ m, w.cell? ⟨g, 0, none⟩ = some (.int k m) := by
  obtain ⟨cs, e, lo, hi, h1, h2⟩ := hw g _ hg
  have hl := h2.length
  obtain ⟨v, hv, _, _, h3⟩ := h2.get 0 _ rfl
  obtain ⟨m, rfl⟩ := h3 k rfl
  refine ⟨m, ?_⟩
  simp only [World.cell?, h1]
  simpa using hv
theorem cont_ok {P : Program} {ρ : Shelf.Ren} (L : Go.Proofs.Lays.n144 P ρ) {gl : List (Nat × List AV)} (hg : (ρ.g 1, [.opq (some .i64)]) ∈ gl) : SmOk P gl (contSm (ρ.f 144)) := by
  intro g args H v H' M w cargs hs hw hr ha
  unfold contSm at hs
  split at hs
  case h_2 => cases hs
  rename_i a b
  cases hb : Nat.beq g (ρ.f 144) && Nat.blt a.length 4294967281 with
  | false => rw [hb] at hs; cases hs
  | true =>
    rw [hb] at hs
    simp only [cond_true, Option.some.injEq, Prod.mk.injEq] at hs
    obtain ⟨rfl, rfl⟩ := hs
    rw [Bool.and_eq_true, Nat.beq_eq, Nat.blt_eq] at hb
    obtain ⟨rfl, hl⟩ := hb
    match cargs, ha with
    | [x, y], ha =>
      obtain ⟨h1, h2, _⟩ := ha
      simp only [VRel] at h1 h2
      subst h1; subst h2
      obtain ⟨m, hm⟩ := glob_int hg hw
      have e : ∀ args w, (callFunc (ρ.f 144) args).run P w = .ok (.enter (ρ.f 144) args) w := Go.Proofs.enters_of L.f144 (by kernel_rfl) rfl
      refine .inr ⟨e _ _, callsIn_wide.2 ((Go.Proofs.Any.strings_Contains L ⟨a.toArray⟩ ⟨b.toArray⟩ m w (by simpa [ByteArray.size] using hl) hm).mono fun e w' he => ?_)⟩
      obtain ⟨rfl, rfl⟩ := he
      obtain ⟨x1, x2⟩ := (Keeps.refl w').ext hr
      exact ⟨_, _, M, rfl, x1, x2, by simp [VRel, hasL_eq]⟩
end
end Go.Vai
end
section
namespace Go.Vai
theorem inR_nat {k : IntKind} {n : Nat} (h : n < topK k) : inR k (.ofNat n) = true := by
  show Nat.blt n _ = true
  rw [Nat.blt_eq]; exact h
theorem wrapR_nat {k : IntKind} {n : Nat} (h : n < topK k) : wrapR k (.ofNat n) = .ofNat n := by
  unfold wrapR
  rw [inR_nat h]; rfl
theorem wrap_i64 {n : Nat} (h : n < 9223372036854775808) : wrapR .i64 (.ofNat n) = .ofNat n := wrapR_nat (Nat.lt_of_lt_of_le h (by decide))
theorem wrap_u8 {n : Nat} (h : n < 256) : wrapR .u8 (.ofNat n) = .ofNat n := wrapR_nat (Nat.lt_of_lt_of_le h (by decide))
theorem ilt_nat (a b : Nat) : ilt (.ofNat a) (.ofNat b) = Nat.blt a b := rfl
theorem roomy_yes {n es : Nat} (h : n ≤ 100000) (he : es ≤ 1000) : roomy n es = true := by
  unfold roomy
  rw [Bool.or_eq_true, Nat.ble_eq]
  refine .inl ?_
  exact Nat.le_trans (Nat.mul_le_mul (Nat.succ_le_succ h) (Nat.succ_le_succ he)) (by decide)
end Go.Vai
end
section
namespace Go.Vai
noncomputable section
section
variable {P : Program} {gl : List (Nat × List AV)} {E : Env}
theorem plain_nil {M : List MEnt} {v : AV} {cv : Value} (hp : Plain v) (h : VRel M v cv) (M' : List MEnt) : VRel M' v cv :=
  rnV_rel (b := 0) (keep := []) (fun k i hk => by simp at hk) v v cv (hp 0 []) h
theorem view_calls {f : FuncId} {fn : AFunc} {args : List AV} {cargs : List Value} {u : AV} {M : List MEnt} {H : AHeap} {w : World} {os : List AObj} {ex : List MEnt} (hE : ∀ w, GlobOk gl w → EnvOk E P (Kept gl w)) (hf : E.fn f = some fn) (hw : GlobOk gl w) (hr : HRel M H w)
    (hl : ex.length = os.length) (hro : ∀ o ∈ os, o.isRo = true) (ho : ∀ (j : Nat) m o, ex[j]? = some m → os[j]? = some o → ORel [] m w o) (ha : VRels (mGlob E.ng 0 ++ ex) args cargs)
    (hp : Plain u) (h : Tri E P (Kept gl w) none fn.body (newFr fn args) (mkH E.ng os) fun e fr H => (e = .normal ∨ e = .ret) ∧ fr.df = [] ∧ ∃ keep fr' H' l, Ren E.ng keep fr H fr' H' ∧ resA E fr'.t H' fn.results = some l ∧ resV l = u) : CallsA P f cargs M H w (.ret u H) := by
  obtain ⟨Fn, hF⟩ := (hE w hw).fns f fn hf
  have hr0 := start_rel (ng := E.ng) hl hro ho
  have kp : Kept gl w (mGlob E.ng 0 ++ ex) (mkH E.ng os) w := ⟨hw, Keeps.refl w, fun b _ ⟨id, o, m, e, r, _⟩ => by
    obtain ⟨j, _, hj⟩ := mkH_get e
    rw [hro o (List.mem_of_getElem? hj)] at r; cases r⟩
  refine .inr ⟨enter_run hF _, callsIn_of_wp hF.at_ hF.body trivial ?_⟩
  refine wpIn_mono (h _ w _ ⟨hr0, (grel_glob E).mono (List.prefix_append _ _), kp⟩ (newFr_rel hF ha)) ?_
  rintro ex1 a1 w1 ⟨e, fr, H1, M1, ⟨he, hd, keep, fr2, H2, l, ren, hl1, hu⟩, s1, er, f1⟩
  have hdf : a1.defers = [] := by
    have := f1.df
    rw [hd] at this
    generalize a1.defers = x at this ⊢
    cases this; rfl
  rw [← hF.res] at hl1
  obtain ⟨M2, s2, f2⟩ := ren.to (kept_carried hw) s1 f1
  obtain ⟨cv, r1, r2⟩ := results_sound (hE w hw).tys s2.hr f2.t hl1
  rw [hu] at r2
  have hv : VRel M u cv := plain_nil hp r2 M
  have kk := s1.i.2.1
  have fin : CallPost M H w (.ret u H) (.returned cv) w1 :=
    ⟨u, H, M, rfl, ⟨List.prefix_refl _, kk.size, kk.os, kk.tape, kk.output, fun b hb hn => ⟨kk.old b hb, hn⟩, fun _ _ hn => hn⟩, ⟨hr.len, fun id o e => by
      obtain ⟨m, hm, r⟩ := hr.obj id o e
      exact ⟨m, hm, r.carry (List.prefix_refl _) (kk.old _ r.lt)⟩, hr.inj⟩, hv⟩
  rcases he with rfl | rfl
  · simp only [ERel] at er; subst er
    exact ⟨hdf, cv, r1, fin⟩
  · simp only [ERel] at er; subst er
    exact ⟨hdf, cv, r1, fin⟩
end
end
end Go.Vai
end
section
namespace Go.Vai
noncomputable section
def word4 (b0 b1 b2 b3 : Int) : Int := wrapR .u32 (orI .u32 (wrapR .u32 (orI .u32 (wrapR .u32 (orI .u32 (wrapR .u32 b0) (wrapR .u32 (shlI (wrapR .u32 b1) 8)))) (wrapR .u32 (shlI (wrapR .u32 b2) 16)))) (wrapR .u32 (shlI (wrapR .u32 b3) 24)))
theorem row_sub {M : List MEnt} {m : MEnt} {w : World} {n : Nat} {T T2 : Tr AV} {e : TypeId} {g : Option Nat} {fz : Nat} {ro mk : Bool} (h : ORel M m w (.cells n T e g fz ro mk)) (hT : ∀ i v, T2.get i = some v → T.get i = some v ∧ Plain v) (e2 : TypeId) : ORel [] m w (.cells n T2 e2 none 0 true false) := by
  obtain ⟨cur, e', lo, hi, h1, h2, h3, h4, h5, h6, h7⟩ := h
  refine ⟨cur, e', lo, hi, h1, (fun e => by cases e), h3, (fun gs e => by cases e), (fun e => by cases e), (fun e => by cases e), fun i v hv => ?_⟩
  obtain ⟨hg, hp⟩ := hT i v hv
  obtain ⟨a, cv, b, c⟩ := h7 i v hg
  exact ⟨a, cv, b, plain_nil hp c []⟩
end
end Go.Vai
end
section
namespace Go.Vai
noncomputable section
variable {α : Type}
end
end Go.Vai
end
section
namespace Go.Vai
theorem wrapB_u (k : IntKind) (m : Nat) (hk : k.signed = false) (hb : k.bits = m) (x : Int) : wrapR k x = x % (2 ^ m : Int) := by
  rw [wrapR_eq]
  unfold IntKind.wrap
  simp [hk, hb]
theorem wrapB_u8 (x : Int) : wrapR .u8 x = x % 256 := wrapB_u .u8 8 rfl rfl x
theorem wrapB_u64 (x : Int) : wrapR .u64 x = x % 18446744073709551616 := wrapB_u .u64 64 rfl rfl x
end Go.Vai
end
