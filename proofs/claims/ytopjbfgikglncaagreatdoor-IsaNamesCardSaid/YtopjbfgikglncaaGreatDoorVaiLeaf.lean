/- What a tree tells at its leaves; rows of pieces of code, by trees and by triples. -/
import Derived.Test.YtopjbfgikglncaaGreatDoorVaiK2
import Derived.Test.YtopjbfgikglncaaGreatDoorVaiCut
import Derived.Test.YtopjbfgikglncaaGreatDoorVaiSum
namespace Go.Vai
noncomputable section
structure Leaf where
  e : AExit
  n : Nat
  rd : Bool
  dn : Bool
  nx : Bool
  vs : List (Option AV)
  os : List (Option AObj)

def nilD : List ADf → Bool
  | [] => true
  | _ => false
/-- The slots S, with the names of 'keep' numbered anew, and the objects of 'keep' behind the first ng. -/
def leafK (ng : Nat) (S keep : List Nat) : KC Leaf := fun e fr H => some ⟨e, fr.n, fr.rd, nilD fr.df, keep.all (fun i => Nat.blt i H.next), S.map fun s => (fr.t.get s).bind (rnV 0 keep), (keep.drop ng).map H.get⟩

def inner : Code → Code
  | .block _ c => c
  | .loop c => c
  | c => c
/-- A piece of code, by its places in the rows of pieces. -/
def codeAt : List Nat → Code → Code
  | [], c => c
  | i :: p, c => codeAt p (inner ((flat c).getD i .skip))

/-- A frame of which some slots are known. -/
def putL : List Nat → List AV → Tr AV
  | s :: S, v :: vs => (putL S vs).set s v
  | _, _ => .nil
def mkFr (n : Nat) (S : List Nat) (vs : List AV) : AFr := ⟨n, putL S vs, [], false⟩
def mkH (ng : Nat) (os : List AObj) : AHeap := news { objs := .nil, next := ng } os

theorem putL_get : ∀ {S : List Nat} {vs : List AV} {i : Nat} {y : AV}, (putL S vs).get i = some y → ∃ j : Nat, S[j]? = some i ∧ vs[j]? = some y
  | [], _, i, y, h => by simp [putL, Tr.get_nil] at h
  | _ :: _, [], i, y, h => by simp [putL, Tr.get_nil] at h
  | s :: S, v :: vs, i, y, h => by
    simp only [putL] at h
    rcases Tr.get_set h with ⟨rfl, rfl⟩ | ⟨_, h⟩
    · exact ⟨0, rfl, rfl⟩
    · obtain ⟨j, a, b⟩ := putL_get h
      exact ⟨j + 1, by simpa using a, by simpa using b⟩
theorem mkH_get {ng : Nat} {os : List AObj} {k : Nat} {u : AObj} (h : (mkH ng os).get k = some u) : ∃ j : Nat, k = ng + j ∧ os[j]? = some u := by
  rcases news_get h with ⟨j, e, hj⟩ | ⟨h, _⟩
  · exact ⟨j, e, hj⟩
  · cases h

def keepOk (ng : Nat) (keep : List Nat) : Bool := (List.range ng).all (fun g => keep[g]? == some g) && decide keep.Nodup

theorem ren_of_leaf {ng n : Nat} {S keep : List Nat} {e e0 : AExit} {fr : AFr} {H : AHeap} {vs : List AV} {os os2 : List AObj} (h : leafK ng S keep e fr H = some ⟨e0, n, false, true, true, vs.map some, os.map some⟩) (hk : keepOk ng keep = true) (hl : os2.length = os.length) (hkl : keep.length = ng + os.length)
    (hr : ∀ (j : Nat) o o2, os[j]? = some o → os2[j]? = some o2 → RObj 0 keep o o2) : e = e0 ∧ Ren ng keep fr H (mkFr n S vs) (mkH ng os2) := by
  simp only [leafK, Option.some.injEq, Leaf.mk.injEq] at h
  obtain ⟨rfl, rfl, h2, h3, h4, h5, h6⟩ := h
  simp only [keepOk, Bool.and_eq_true, List.all_eq_true, List.mem_range, beq_iff_eq, decide_eq_true_eq] at hk
  refine ⟨rfl, hk.1, fun i hi => ?_, hk.2, ?_, fun k u hu => ?_, rfl, h2.symm, ⟨?_, rfl⟩, fun i y hy => ?_⟩
  · have := List.all_eq_true.1 h4 i hi
    simpa using this
  · show (news { objs := .nil, next := ng } os2).next = _
    rw [news_next, hl, hkl]
  · obtain ⟨j, rfl, hj⟩ := mkH_get hu
    have hjl : j < os.length := by rw [← hl]; exact (List.getElem?_eq_some_iff.1 hj).1
    have hki : keep[ng + j]? = some (keep[ng + j]'(by omega)) := List.getElem?_eq_getElem _
    have h7 := congrArg (·[j]?) h6
    simp only [List.getElem?_map, List.getElem?_drop, hki, Option.map_some, List.getElem?_eq_getElem hjl, Option.some.injEq] at h7
    exact ⟨_, _, hki, h7, hr j _ _ (List.getElem?_eq_getElem hjl) hj⟩
  · cases hd : fr.df with
    | nil => rfl
    | cons x l => rw [hd] at h3; cases h3
  · obtain ⟨j, hs, hv⟩ := putL_get hy
    have h7 := congrArg (·[j]?) h5
    simp only [List.getElem?_map, hs, hv, Option.map_some, Option.some.injEq] at h7
    cases hg : fr.t.get i with
    | none => rw [hg] at h7; cases h7
    | some x => rw [hg] at h7; exact ⟨x, rfl, h7⟩

/-! ### Rows of pieces -/
def codesKK {α : Type} (E : Env) (cl : Cl α) (l : List Code) : CK' α := List.rec (motive := fun _ => CK' α) (fun k => k .normal) (fun c _ K k => codeKK E cl c (seqKK K k)) l
theorem codesKK_some {α : Type} {E : Env} {cl : Cl α} {ih : Task → Option TRes} (hc : ClOk cl ih) : ∀ (l : List Code) (k : KC α) (fr : AFr) (H : AHeap) (r : α), codesKK E cl l k fr H = some r → ∃ e fr' H', codeL E ih l fr H = some (.code e fr' H') ∧ k e fr' H' = some r := by
  intro l
  induction l with
  | nil => intro k fr H r h; exact ⟨_, _, _, rfl, h⟩
  | cons c l ihl =>
    intro k fr H r h
    have h' : codeKK E cl c (seqKK (codesKK E cl l) k) fr H = some r := h
    obtain ⟨e, fr1, H1, e1, e2⟩ := codeKK_some hc c _ fr H r h'
    simp only [codeL, e1]
    cases e with
    | normal => exact ihl k fr1 H1 r e2
    | exit i => exact ⟨_, _, _, rfl, e2⟩
    | ret => exact ⟨_, _, _, rfl, e2⟩
    | panic v => exact ⟨_, _, _, rfl, e2⟩

section
variable {E : Env} {P : Program} {I : List MEnt → AHeap → World → Prop} {ih : Task → Option TRes} {ro : Option Nat}
def TriL (E : Env) (P : Program) (I : List MEnt → AHeap → World → Prop) (ro : Option Nat) : List Code → AFr → AHeap → TQ → Prop
  | [], fr, H, Q => ∀ M w a, St E I M H w → FRel ro M fr a → TPost E I ro Q .normal a w
  | c :: cs, fr, H, Q => Tri E P I ro c fr H fun e fr' H' => (e = .normal ∧ TriL E P I ro cs fr' H' Q) ∨ (e ≠ .normal ∧ Q e fr' H')
theorem TriL.nil {fr : AFr} {H : AHeap} {Q : TQ} (h : Q .normal fr H) : TriL E P I ro [] fr H Q := fun M _ _ st hf => ⟨.normal, fr, H, M, h, st, rfl, hf⟩
theorem TriL.mono : ∀ {l : List Code} {fr : AFr} {H : AHeap} {Q Q' : TQ}, TriL E P I ro l fr H Q → (∀ e fr H, Q e fr H → Q' e fr H) → TriL E P I ro l fr H Q'
  | [], _, _, _, _, h, hq => fun M w a st hf => by
    obtain ⟨e, fr1, H1, M1, q, r⟩ := h M w a st hf
    exact ⟨e, fr1, H1, M1, hq _ _ _ q, r⟩
  | _ :: _, _, _, _, _, h, hq => Tri.mono h fun e fr' H' q => q.imp (fun ⟨a, b⟩ => ⟨a, TriL.mono b hq⟩) (fun ⟨a, b⟩ => ⟨a, hq _ _ _ b⟩)

/-- The row's end met from a state that a triple ends in. -/
theorem TriL.append : ∀ {l m : List Code} {fr : AFr} {H : AHeap} {Q : TQ}, TriL E P I ro (l ++ m) fr H Q → TriL E P I ro l fr H fun e fr' H' => (e = .normal ∧ TriL E P I ro m fr' H' Q) ∨ (e ≠ .normal ∧ Q e fr' H')
  | [], _, _, _, _, h => TriL.nil (.inl ⟨rfl, h⟩)
  | _ :: _, _, _, _, _, h => Tri.mono h fun e fr' H' q => by
    rcases q with ⟨a, b⟩ | ⟨a, b⟩
    · exact .inl ⟨a, TriL.append b⟩
    · exact .inr ⟨a, .inr ⟨a, b⟩⟩

theorem tri_of_triL : ∀ (c : Code) {fr : AFr} {H : AHeap} {Q : TQ}, TriL E P I ro (flat c) fr H Q → Tri E P I ro c fr H Q := by
  have one : ∀ {c : Code} {fr : AFr} {H : AHeap} {Q : TQ}, TriL E P I ro [c] fr H Q → Tri E P I ro c fr H Q := by
    intro c fr H Q h M w a st hf
    refine wpIn_mono (h M w a st hf) ?_
    rintro ex a1 w1 ⟨e, fr1, H1, M1, q, s1, er, f1⟩
    rcases q with ⟨rfl, q⟩ | ⟨_, q⟩
    · simp only [ERel] at er; subst er
      exact q M1 w1 a1 s1 f1
    · exact ⟨e, fr1, H1, M1, q, s1, er, f1⟩
  intro c
  induction c with
  | seq a b iha ihb =>
    intro fr H Q h
    exact Tri.seq (iha ((TriL.append h).mono fun e fr' H' q => q.imp (fun ⟨x, y⟩ => ⟨x, ihb y⟩) id))
  | _ => intro fr H Q h; exact one h

theorem TriL.ren (hI : Carried I) {l : List Code} {keep : List Nat} {fr fr' : AFr} {H H' : AHeap} {Q : TQ} (r : Ren E.ng keep fr H fr' H') (h : TriL E P I ro l fr' H' Q) : TriL E P I ro l fr H Q := by
  cases l with
  | nil =>
    intro M w a st hf
    obtain ⟨M', s2, f2⟩ := r.to hI st hf
    exact h M' w a s2 f2
  | cons c cs => exact Tri.ren hI r h

/-- The front of a row, straight code. -/
theorem TriL.run (hE : EnvOk E P I) (hs : Sound E P I ih) : ∀ {l m : List Code} {fr : AFr} {H : AHeap} {e : AExit} {fr' : AFr} {H' : AHeap} {Q : TQ}, codeL E ih l fr H = some (.code e fr' H') → ((e = .normal ∧ TriL E P I ro m fr' H' Q) ∨ (e ≠ .normal ∧ Q e fr' H')) → TriL E P I ro (l ++ m) fr H Q
  | [], m, fr, H, e, fr', H', Q, h, hq => by
    simp only [codeL, Option.some.injEq, TRes.code.injEq] at h
    obtain ⟨rfl, rfl, rfl⟩ := h
    rcases hq with ⟨_, h⟩ | ⟨h, _⟩
    · exact h
    · exact absurd rfl h
  | c :: l, m, fr, H, e, fr', H', Q, h, hq => by
    simp only [codeL] at h
    split at h
    · rename_i fr1 H1 hc
      exact Tri.run hE hs hc (.inl ⟨rfl, TriL.run hE hs h hq⟩)
    · rename_i hne
      have hen : e ≠ .normal := fun he => by subst he; exact hne _ _ h
      rcases hq with ⟨h1, _⟩ | ⟨_, h1⟩
      · exact absurd h1 hen
      · exact Tri.run hE hs h (.inr ⟨hen, h1⟩)

/-- The front of a row by its tree's leaf; the rest from the leaf's state. -/
theorem TriL.leaf (hE : EnvOk E P I) (hI : Carried I) {d : Nat} {l m : List Code} {fr : AFr} {H : AHeap} {S keep : List Nat} {n : Nat} {vs : List AV} {os os2 : List AObj} {Q : TQ}
    (h : codesKK E (callKK E d) l (leafK E.ng S keep) fr H = some ⟨.normal, n, false, true, true, vs.map some, os.map some⟩) (hk : keepOk E.ng keep = true) (hl : os2.length = os.length) (hkl : keep.length = E.ng + os.length)
    (hr : ∀ (j : Nat) o o2, os[j]? = some o → os2[j]? = some o2 → RObj 0 keep o o2) (hm : TriL E P I ro m (mkFr n S vs) (mkH E.ng os2) Q) : TriL E P I ro (l ++ m) fr H Q := by
  obtain ⟨e, fr', H', e1, e2⟩ := codesKK_some (callKK_ok E d) l _ fr H _ h
  obtain ⟨he, ren⟩ := ren_of_leaf e2 hk hl hkl hr
  exact TriL.run hE (sound_run hE _) e1 (.inl ⟨he, TriL.ren hI ren hm⟩)
end
theorem robj_plain {keep : List Nat} {n : Nat} {t : Tr AV} {e : TypeId} {g : Option Nat} {fz : Nat} {ro mk : Bool} (h : PlainT t) : RObj 0 keep (.cells n t e g fz ro mk) (.cells n t e g fz ro mk) := ⟨t, rfl, fun i y hy => ⟨y, hy, h i y hy 0 keep⟩⟩
end
end Go.Vai
