/- A body cut at a test that hangs on an argument: its front by the kernel, the test by a fact, its rest by the kernel.
What a tree tells at its leaves; rows of pieces of code, by trees and by triples.
Names for what trees bear: leaves, places, a step up or down.
Environments out of lists of summaries; what a closed call leaves behind, as a summary of that call in whatever memory.
A call that leaves nothing behind: run by itself, all that it finds frozen; what comes out is a plain value, whatever the order of the maps that it goes over.
An argument that is a slice of plain data: what its row holds, as an object that may be read.
A law's start from arguments that are slices of plain data.
Calls from plain values to plain values as summaries; an argument's whole row.
What trees over values come to: their leaves' parts.
strings.Contains at known strings, whatever internal/bytealg.MaxLen holds: by the shelf's contract.
Numbers in trees: small ones are themselves.
A call that reads one row that it is handed and answers a plain value: by a triple from known memory, in whatever memory.
A call that reads four bytes of a row that it is handed and answers a plain value, as a summary.
Trees whose branches are named ahead, with summaries that may name branches too: a text that a call answers can be pinned to one that is named ahead.
Numbers of trees as Lean's own: wrapping as remainders, shifts as products and quotients, masks as remainders, bits that do not meet as sums. -/
import Derived.Test.YtmppdannkpdpmaaGreatDoorVaiF
import Derived.Test.YtmppdannkpdpmaaGreatDoorVaiG
import Derived.Test.YtmppdannkpdpmaaGreatDoorVaiE
import Derived.Shelf.Strings.Search3
import Derived.Shelf.Vars
section
namespace Go.Vai
noncomputable section
def flat : Code → List Code
  | .seq a b => flat a ++ flat b
  | c => [c]
def Zes (E : Env) (ih : Task → Option TRes) : List Code → AFr → AHeap → Option TRes
  | [], fr, H => some (.code .normal fr H)
  | c :: cs, fr, H => match Ye E ih c fr H with
    | some (.code .normal fr H) => Zes E ih cs fr H
    | r => r
section
variable {E : Env} {ih : Task → Option TRes}
end
end
end Go.Vai
end
section
namespace Go.Vai
noncomputable section
structure Leaf where
  e : AExit
  n : Nat
  rd : Bool
  dn : Bool
  nx : Bool
  vs : List (Option AV)
  os : List (Option AObj)
def nilD : List ADf → Bool
  | [] => true
  | _ => false
def Vb (ng : Nat) (S keep : List Nat) : KC Leaf := fun e fr H => some ⟨e, fr.n, fr.rd, nilD fr.df, keep.all (fun i => Nat.blt i H.next), S.map fun s => (fr.t.get s).bind (Vq 0 keep), (keep.drop ng).map H.get⟩
def Z35 : Code → Code
  | .block _ c => c
  | .loop c => c
  | c => c
def Qm : List Nat → Code → Code
  | [], c => c
  | i :: p, c => Qm p (Z35 ((flat c).getD i .skip))
def Zfj : List Nat → List AV → Tr AV
  | s :: S, v :: vs => (Zfj S vs).set s v
  | _, _ => .nil
def Yq (n : Nat) (S : List Nat) (vs : List AV) : AFr := ⟨n, Zfj S vs, [], false⟩
def Z6 (ng : Nat) (os : List AObj) : AHeap := news { objs := .nil, next := ng } os
theorem Zhh : ∀ {S : List Nat} {vs : List AV} {i : Nat} {y : AV}, (Zfj S vs).get i = some y → ∃ j : Nat, S[j]? = some i ∧ vs[j]? = some y
  | [], _, i, y, h => by simp [Zfj, Tr.get_nil] at h
  | _ :: _, [], i, y, h => by simp [Zfj, Tr.get_nil] at h
  | s :: S, v :: vs, i, y, h => by
    simp only [Zfj] at h
    rcases Tr.get_set h with ⟨rfl, rfl⟩ | ⟨_, h⟩
    · exact ⟨0, rfl, rfl⟩
    · obtain ⟨j, a, b⟩ := Zhh h
      exact ⟨j + 1, by simpa using a, by simpa using b⟩
theorem Qp {ng : Nat} {os : List AObj} {k : Nat} {u : AObj} (h : (Z6 ng os).get k = some u) : ∃ j : Nat, k = ng + j ∧ os[j]? = some u := by
  rcases Jh h with ⟨j, e, hj⟩ | ⟨h, _⟩
  · exact ⟨j, e, hj⟩
  · cases h
def Wp (ng : Nat) (keep : List Nat) : Bool := (List.range ng).all (fun g => keep[g]? == some g) && decide keep.Nodup
theorem J6 {ng n : Nat} {S keep : List Nat} {e e0 : AExit} {fr : AFr} {H : AHeap} {vs : List AV} {os os2 : List AObj} (h : Vb ng S keep e fr H = some ⟨e0, n, false, true, true, vs.map some, os.map some⟩) (hk : Wp ng keep = true) (hl : os2.length = os.length) (hkl : keep.length = ng + os.length)
    (hr : ∀ (j : Nat) o o2, os[j]? = some o → os2[j]? = some o2 → Q9 0 keep o o2) : e = e0 ∧ Ren ng keep fr H (Yq n S vs) (Z6 ng os2) := by
  simp only [Vb, Option.some.injEq, Leaf.mk.injEq] at h
  obtain ⟨rfl, rfl, h2, h3, h4, h5, h6⟩ := h
  simp only [Wp, Bool.and_eq_true, List.all_eq_true, List.mem_range, beq_iff_eq, decide_eq_true_eq] at hk
  refine ⟨rfl, hk.1, fun i hi => ?_, hk.2, ?_, fun k u hu => ?_, rfl, h2.symm, ⟨?_, rfl⟩, fun i y hy => ?_⟩
  · have := List.all_eq_true.1 h4 i hi
    simpa using this
  · show (news { objs := .nil, next := ng } os2).next = _
    rw [Kz, hl, hkl]
  · obtain ⟨j, rfl, hj⟩ := Qp hu
    have hjl : j < os.length := by rw [← hl]; exact (List.getElem?_eq_some_iff.1 hj).1
    have hki : keep[ng + j]? = some (keep[ng + j]'(by omega)) := List.getElem?_eq_getElem _
    have h7 := congrArg (·[j]?) h6
    simp only [List.getElem?_map, List.getElem?_drop, hki, Option.map_some, List.getElem?_eq_getElem hjl, Option.some.injEq] at h7
    exact ⟨_, _, hki, h7, hr j _ _ (List.getElem?_eq_getElem hjl) hj⟩
  · cases hd : fr.df with
    | nil => rfl
    | cons x l => rw [hd] at h3; cases h3
  · obtain ⟨j, hs, hv⟩ := Zhh hy
    have h7 := congrArg (·[j]?) h5
    simp only [List.getElem?_map, hs, hv, Option.map_some, Option.some.injEq] at h7
    cases hg : fr.t.get i with
    | none => rw [hg] at h7; cases h7
    | some x => rw [hg] at h7; exact ⟨x, rfl, h7⟩
def Xy {α : Type} (E : Env) (cl : Cl α) (l : List Code) : CK' α := List.rec (motive := fun _ => CK' α) (fun k => k .normal) (fun c _ K k => W6 E cl c (Zpe K k)) l
theorem Zdi {α : Type} {E : Env} {cl : Cl α} {ih : Task → Option TRes} (hc : Zce cl ih) : ∀ (l : List Code) (k : KC α) (fr : AFr) (H : AHeap) (r : α), Xy E cl l k fr H = some r → ∃ e fr' H', Zes E ih l fr H = some (.code e fr' H') ∧ k e fr' H' = some r := by
  intro l
  induction l with
  | nil => intro k fr H r h; exact ⟨_, _, _, rfl, h⟩
  | cons c l ihl =>
    intro k fr H r h
    have h' : W6 E cl c (Zpe (Xy E cl l) k) fr H = some r := h
    obtain ⟨e, fr1, H1, e1, e2⟩ := We hc c _ fr H r h'
    simp only [Zes, e1]
    cases e with
    | normal => exact ihl k fr1 H1 r e2
    | exit i => exact ⟨_, _, _, rfl, e2⟩
    | ret => exact ⟨_, _, _, rfl, e2⟩
    | panic v => exact ⟨_, _, _, rfl, e2⟩
section
variable {E : Env} {P : Program} {I : List MEnt → AHeap → World → Prop} {ih : Task → Option TRes} {ro : Option Nat}
def Yc (E : Env) (P : Program) (I : List MEnt → AHeap → World → Prop) (ro : Option Nat) : List Code → AFr → AHeap → TQ → Prop
  | [], fr, H, Q => ∀ M w a, St E I M H w → FRel ro M fr a → Zcy E I ro Q .normal a w
  | c :: cs, fr, H, Q => Wv E P I ro c fr H fun e fr' H' => (e = .normal ∧ Yc E P I ro cs fr' H' Q) ∨ (e ≠ .normal ∧ Q e fr' H')
theorem Yc.nil {fr : AFr} {H : AHeap} {Q : TQ} (h : Q .normal fr H) : Yc E P I ro [] fr H Q := fun M _ _ st hf => ⟨.normal, fr, H, M, h, st, rfl, hf⟩
theorem Yc.mono : ∀ {l : List Code} {fr : AFr} {H : AHeap} {Q Q' : TQ}, Yc E P I ro l fr H Q → (∀ e fr H, Q e fr H → Q' e fr H) → Yc E P I ro l fr H Q'
  | [], _, _, _, _, h, hq => fun M w a st hf => by
    obtain ⟨e, fr1, H1, M1, q, r⟩ := h M w a st hf
    exact ⟨e, fr1, H1, M1, hq _ _ _ q, r⟩
  | _ :: _, _, _, _, _, h, hq => Wv.mono h fun e fr' H' q => q.imp (fun ⟨a, b⟩ => ⟨a, Yc.mono b hq⟩) (fun ⟨a, b⟩ => ⟨a, hq _ _ _ b⟩)
theorem Yc.append : ∀ {l m : List Code} {fr : AFr} {H : AHeap} {Q : TQ}, Yc E P I ro (l ++ m) fr H Q → Yc E P I ro l fr H fun e fr' H' => (e = .normal ∧ Yc E P I ro m fr' H' Q) ∨ (e ≠ .normal ∧ Q e fr' H')
  | [], _, _, _, _, h => Yc.nil (.inl ⟨rfl, h⟩)
  | _ :: _, _, _, _, _, h => Wv.mono h fun e fr' H' q => by
    rcases q with ⟨a, b⟩ | ⟨a, b⟩
    · exact .inl ⟨a, Yc.append b⟩
    · exact .inr ⟨a, .inr ⟨a, b⟩⟩
theorem Yz : ∀ (c : Code) {fr : AFr} {H : AHeap} {Q : TQ}, Yc E P I ro (flat c) fr H Q → Wv E P I ro c fr H Q := by
  have one : ∀ {c : Code} {fr : AFr} {H : AHeap} {Q : TQ}, Yc E P I ro [c] fr H Q → Wv E P I ro c fr H Q := by
    intro c fr H Q h M w a st hf
    refine wpIn_mono (h M w a st hf) ?_
    rintro ex a1 w1 ⟨e, fr1, H1, M1, q, s1, er, f1⟩
    rcases q with ⟨rfl, q⟩ | ⟨_, q⟩
    · simp only [X3] at er; subst er
      exact q M1 w1 a1 s1 f1
    · exact ⟨e, fr1, H1, M1, q, s1, er, f1⟩
  intro c
  induction c with
  | seq a b iha ihb =>
    intro fr H Q h
    exact Wv.seq (iha ((Yc.append h).mono fun e fr' H' q => q.imp (fun ⟨x, y⟩ => ⟨x, ihb y⟩) id))
  | _ => intro fr H Q h; exact one h
theorem Yc.ren (hI : Carried I) {l : List Code} {keep : List Nat} {fr fr' : AFr} {H H' : AHeap} {Q : TQ} (r : Ren E.ng keep fr H fr' H') (h : Yc E P I ro l fr' H' Q) : Yc E P I ro l fr H Q := by
  cases l with
  | nil =>
    intro M w a st hf
    obtain ⟨M', s2, f2⟩ := r.to hI st hf
    exact h M' w a s2 f2
  | cons c cs => exact Wv.ren hI r h
theorem Yc.run (hE : EnvOk E P I) (hs : Sound E P I ih) : ∀ {l m : List Code} {fr : AFr} {H : AHeap} {e : AExit} {fr' : AFr} {H' : AHeap} {Q : TQ}, Zes E ih l fr H = some (.code e fr' H') → ((e = .normal ∧ Yc E P I ro m fr' H' Q) ∨ (e ≠ .normal ∧ Q e fr' H')) → Yc E P I ro (l ++ m) fr H Q
  | [], m, fr, H, e, fr', H', Q, h, hq => by
    simp only [Zes, Option.some.injEq, TRes.code.injEq] at h
    obtain ⟨rfl, rfl, rfl⟩ := h
    rcases hq with ⟨_, h⟩ | ⟨h, _⟩
    · exact h
    · exact absurd rfl h
  | c :: l, m, fr, H, e, fr', H', Q, h, hq => by
    simp only [Zes] at h
    split at h
    · rename_i fr1 H1 hc
      exact Wv.run hE hs hc (.inl ⟨rfl, Yc.run hE hs h hq⟩)
    · rename_i hne
      have hen : e ≠ .normal := fun he => by subst he; exact hne _ _ h
      rcases hq with ⟨h1, _⟩ | ⟨_, h1⟩
      · exact absurd h1 hen
      · exact Wv.run hE hs h (.inr ⟨hen, h1⟩)
end
theorem Zni {keep : List Nat} {n : Nat} {t : Tr AV} {e : TypeId} {g : Option Nat} {fz : Nat} {ro mk : Bool} (h : Zgc t) : Q9 0 keep (.cells n t e g fz ro mk) (.cells n t e g fz ro mk) := ⟨t, rfl, fun i y hy => ⟨y, hy, h i y hy 0 keep⟩⟩
end
end Go.Vai
end
section
namespace Go.Vai
noncomputable section
def lf (e : AExit) (n : Nat) (vs : List (Option AV)) (os : List (Option AObj)) : Option Leaf := some ⟨e, n, false, true, true, vs, os⟩
def at1 (k : Nat) : Nat := Nat.add 0 (Nat.mul k 1)
theorem Z0g (k : Nat) : at1 k = k := by simp [at1]
def pr (k : Nat) : Int := Zb .i64 ((Int.ofNat k).sub (Int.ofNat 1))
def up (k : Nat) : Int := Zb .i64 (Int.ofNat k.succ)
theorem Zet {k : Nat} (h : k < 2 ^ 62) : Zb .i64 (.ofNat k) = .ofNat k := by
  have : inR .i64 (.ofNat k) = true := by
    show Nat.blt k _ = true
    rw [Nat.blt_eq]
    refine Nat.lt_of_lt_of_le h ?_
    decide
  unfold Zb
  rw [this]; rfl
theorem Zzh {k : Nat} (h : k < 2 ^ 61) : up k = .ofNat (k + 1) := Zet (by omega)
theorem Z3k {k : Nat} (h : k < 2 ^ 61) : pr (k + 1) = .ofNat k := by
  have : (Int.ofNat (k + 1)).sub (Int.ofNat 1) = .ofNat k := by
    show (Int.ofNat (k + 1)) - (Int.ofNat 1) = _
    simp
  unfold pr
  rw [this]
  exact Zet (by omega)
theorem Z4 {a b : Nat} (h : a < b) : Nat.blt a b = true := by rw [Nat.blt_eq]; exact h
theorem Zw {a b : Nat} (h : ¬ a < b) : Nat.blt a b = false := by
  cases e : Nat.blt a b with
  | false => rfl
  | true => rw [Nat.blt_eq] at e; exact absurd e h
theorem Zl {a b : Nat} (h : a ≤ b) : Nat.ble a b = true := by rw [Nat.ble_eq]; exact h
theorem Zgf {a b : Nat} (h : ¬ a ≤ b) : Nat.ble a b = false := by
  cases e : Nat.ble a b with
  | false => rfl
  | true => rw [Nat.ble_eq] at e; exact absurd e h
theorem Vd {a b : Nat} (h : a = b) : Nat.beq a b = true := by rw [Nat.beq_eq]; exact h
theorem Qy {a b : Nat} (h : ¬ a = b) : Nat.beq a b = false := by
  cases e : Nat.beq a b with
  | false => rfl
  | true => rw [Nat.beq_eq] at e; exact absurd e h
section
variable {E : Env} {P : Program} {I : List MEnt → AHeap → World → Prop} {ro : Option Nat}
theorem Yc.leafC (hE : EnvOk E P I) {cl : Cl Leaf} {d : Nat} (hc : Zce cl (Go.Vai.run E d)) {l : List Code} {fr : AFr} {H : AHeap} {S keep : List Nat} {e : AExit} {n : Nat} {vs : List AV} {os os2 : List AObj} {Q : TQ}
    (h : Xy E cl l (Vb E.ng S keep) fr H = lf e n (vs.map some) (os.map some)) (hk : Wp E.ng keep = true) (hl : os2.length = os.length) (hkl : keep.length = E.ng + os.length)
    (hr : ∀ (j : Nat) o o2, os[j]? = some o → os2[j]? = some o2 → Q9 0 keep o o2) (hm : ∀ fr' H', Ren E.ng keep fr' H' (Yq n S vs) (Z6 E.ng os2) → Q e fr' H') : Yc E P I ro l fr H Q := by
  obtain ⟨e1, fr', H', e2, e3⟩ := Zdi hc l _ fr H _ h
  obtain ⟨rfl, ren⟩ := J6 e3 hk hl hkl hr
  have := Yc.run (m := []) hE (Qk hE _) (ro := ro) (Q := Q) e2 (by
    cases e1 with
    | normal => exact .inl ⟨rfl, Yc.nil (hm _ _ ren)⟩
    | _ => exact .inr ⟨(by intro h; cases h), hm _ _ ren⟩)
  rwa [List.append_nil] at this
theorem Yc.leafXC (hE : EnvOk E P I) (hI : Carried I) {cl : Cl Leaf} {d : Nat} (hc : Zce cl (Go.Vai.run E d)) {l m : List Code} {fr : AFr} {H : AHeap} {S keep : List Nat} {e : AExit} {n : Nat} {vs : List AV} {os os2 : List AObj} {Q : TQ}
    (h : Xy E cl l (Vb E.ng S keep) fr H = lf e n (vs.map some) (os.map some)) (hk : Wp E.ng keep = true) (hl : os2.length = os.length) (hkl : keep.length = E.ng + os.length)
    (hr : ∀ (j : Nat) o o2, os[j]? = some o → os2[j]? = some o2 → Q9 0 keep o o2)
    (hm : (e = .normal ∧ Yc E P I ro m (Yq n S vs) (Z6 E.ng os2) Q) ∨ (e ≠ .normal ∧ ∀ fr' H', Ren E.ng keep fr' H' (Yq n S vs) (Z6 E.ng os2) → Q e fr' H')) : Yc E P I ro (l ++ m) fr H Q := by
  obtain ⟨e1, fr', H', e2, e3⟩ := Zdi hc l _ fr H _ h
  obtain ⟨rfl, ren⟩ := J6 e3 hk hl hkl hr
  refine Yc.run hE (Qk hE _) e2 ?_
  rcases hm with ⟨rfl, hm⟩ | ⟨hne, hm⟩
  · exact .inl ⟨rfl, Yc.ren hI ren hm⟩
  · exact .inr ⟨hne, hm _ _ ren⟩
theorem Wv.leafC (hE : EnvOk E P I) {cl : Cl Leaf} {d : Nat} (hc : Zce cl (Go.Vai.run E d)) {c : Code} {fr : AFr} {H : AHeap} {S keep : List Nat} {e : AExit} {n : Nat} {vs : List AV} {os os2 : List AObj} {Q : TQ}
    (h : W6 E cl c (Vb E.ng S keep) fr H = lf e n (vs.map some) (os.map some)) (hk : Wp E.ng keep = true) (hl : os2.length = os.length) (hkl : keep.length = E.ng + os.length)
    (hr : ∀ (j : Nat) o o2, os[j]? = some o → os2[j]? = some o2 → Q9 0 keep o o2) (hm : ∀ fr' H', Ren E.ng keep fr' H' (Yq n S vs) (Z6 E.ng os2) → Q e fr' H') : Wv E P I ro c fr H Q := by
  obtain ⟨e1, fr', H', e2, e3⟩ := We hc c _ fr H _ h
  obtain ⟨rfl, ren⟩ := J6 e3 hk hl hkl hr
  exact Wv.run hE (Qk hE _) e2 (hm _ _ ren)
theorem Yc.leafE (hE : EnvOk E P I) {d : Nat} {l : List Code} {fr : AFr} {H : AHeap} {S keep : List Nat} {e : AExit} {n : Nat} {vs : List AV} {os os2 : List AObj} {Q : TQ}
    (h : Xy E (Vo E d) l (Vb E.ng S keep) fr H = lf e n (vs.map some) (os.map some)) (hk : Wp E.ng keep = true) (hl : os2.length = os.length) (hkl : keep.length = E.ng + os.length)
    (hr : ∀ (j : Nat) o o2, os[j]? = some o → os2[j]? = some o2 → Q9 0 keep o o2) (hm : ∀ fr' H', Ren E.ng keep fr' H' (Yq n S vs) (Z6 E.ng os2) → Q e fr' H') : Yc E P I ro l fr H Q := Yc.leafC hE (Zd5 E d) h hk hl hkl hr hm
theorem Yc.leafX (hE : EnvOk E P I) (hI : Carried I) {d : Nat} {l m : List Code} {fr : AFr} {H : AHeap} {S keep : List Nat} {e : AExit} {n : Nat} {vs : List AV} {os os2 : List AObj} {Q : TQ}
    (h : Xy E (Vo E d) l (Vb E.ng S keep) fr H = lf e n (vs.map some) (os.map some)) (hk : Wp E.ng keep = true) (hl : os2.length = os.length) (hkl : keep.length = E.ng + os.length)
    (hr : ∀ (j : Nat) o o2, os[j]? = some o → os2[j]? = some o2 → Q9 0 keep o o2)
    (hm : (e = .normal ∧ Yc E P I ro m (Yq n S vs) (Z6 E.ng os2) Q) ∨ (e ≠ .normal ∧ ∀ fr' H', Ren E.ng keep fr' H' (Yq n S vs) (Z6 E.ng os2) → Q e fr' H')) : Yc E P I ro (l ++ m) fr H Q := Yc.leafXC hE hI (Zd5 E d) h hk hl hkl hr hm
theorem Wv.leafE (hE : EnvOk E P I) {d : Nat} {c : Code} {fr : AFr} {H : AHeap} {S keep : List Nat} {e : AExit} {n : Nat} {vs : List AV} {os os2 : List AObj} {Q : TQ}
    (h : W6 E (Vo E d) c (Vb E.ng S keep) fr H = lf e n (vs.map some) (os.map some)) (hk : Wp E.ng keep = true) (hl : os2.length = os.length) (hkl : keep.length = E.ng + os.length)
    (hr : ∀ (j : Nat) o o2, os[j]? = some o → os2[j]? = some o2 → Q9 0 keep o o2) (hm : ∀ fr' H', Ren E.ng keep fr' H' (Yq n S vs) (Z6 E.ng os2) → Q e fr' H') : Wv E P I ro c fr H Q := Wv.leafC hE (Zd5 E d) h hk hl hkl hr hm
end
def BT (T : Tr AV) : Prop := ∀ i v, T.get i = some v → ∃ b, v = .bool b
theorem BT.plain {T : Tr AV} (h : BT T) : Zgc T := fun i v hv => by
  obtain ⟨b, rfl⟩ := h i v hv
  intro _ _; rfl
def Zsn (N : Nat) (T : Tr AV) (F : Nat → Bool) : Prop := BT T ∧ ∀ k, k < N → T.get k = some (.bool (F k))
theorem Zsn.put {N : Nat} {T : Tr AV} {F G : Nat → Bool} {k : Nat} {b : Bool} (h : Zsn N T F) (hN : N ≤ 1000000) (hk : k < N) (hb : b = G k) (hG : ∀ j, j < N → j ≠ k → F j = G j) : Zsn N (T.putAll k [.bool b]) G := by
  have e : T.putAll k [.bool b] = T.set k (.bool b) := by rw [Tr.putAll_cons, Tr.putAll_nil]
  rw [e]
  refine ⟨fun i v hv => ?_, fun j hj => ?_⟩
  · rcases Tr.get_set hv with ⟨_, rfl⟩ | ⟨_, h2⟩
    · exact ⟨b, rfl⟩
    · exact h.1 i v h2
  · rw [Tr.get_set_eq T j _ (by omega)]
    split
    · rename_i e; subst e; rw [hb]
    · rename_i e; rw [h.2 j hj, hG j hj e]
theorem Tr.get_putAll_eq : ∀ (vs : List AV) (t : Tr AV) (k j : Nat), k + vs.length ≤ 1000000 → (t.putAll k vs).get j = if k ≤ j ∧ j < k + vs.length then vs[j - k]? else t.get j
  | [], t, k, j, _ => by
    rw [Tr.putAll_nil, if_neg]
    simp only [List.length_nil]; omega
  | v :: vs, t, k, j, h => by
    rw [Tr.putAll_cons, Tr.get_putAll_eq vs _ _ _ (by simp at h; omega), Tr.get_set_eq _ _ _ (by simp at h; omega)]
    by_cases e : j = k
    · subst e
      rw [if_neg (by omega), if_pos rfl, if_pos (by simp)]
      simp
    · by_cases e2 : k + 1 ≤ j ∧ j < k + 1 + vs.length
      · rw [if_pos e2, if_pos (by simp; omega)]
        rw [show j - k = (j - (k + 1)) + 1 by omega]
        simp
      · rw [if_neg e2, if_neg e, if_neg (by simp; omega)]
end
end Go.Vai
end
section
namespace Go.Vai
noncomputable section
abbrev Sm := Nat → List AV → AHeap → Option (AV × AHeap)
def Vt (P : Program) (gl : List (Nat × List AV)) (sm : Sm) : Prop := ∀ f args H v H' M w cargs, sm f args H = some (v, H') → Ya gl w → HRel M H w → Zs M args cargs → Vy P f cargs M H w (.ret v H')
def Y4 (a b : Sm) : Sm := fun f args H => Option.rec (motive := fun _ => Option (AV × AHeap)) (b f args H) (fun r => some r) (a f args H)
def Zcu (kinds : List (Nat × Nat × Nat)) : Sm := fun f args H => match Zlb kinds f with
  | some (k, e) => Zvi k e args H
  | none => none
section
variable {P : Program} {gl : List (Nat × List AV)}
theorem Vt.or {a b : Sm} (ha : Vt P gl a) (hb : Vt P gl b) : Vt P gl (Y4 a b) := by
  intro f args H v H' M w cargs h hw hr hv
  unfold Y4 at h
  cases e : a f args H with
  | none => rw [e] at h; exact hb f args H v H' M w cargs h hw hr hv
  | some r =>
    rw [e] at h
    simp only [Option.some.injEq] at h
    subst h
    exact ha f args H v H' M w cargs e hw hr hv
theorem Zs2 {kinds : List (Nat × Nat × Nat)} (hK : Zt2 P kinds = true) : Vt P gl (Zcu kinds) := by
  intro f args H v H' M w cargs h _ hr ha
  unfold Zcu at h
  split at h
  · rename_i k e hk
    exact Zp9 hK hk h hr ha
  · cases h
theorem Zc0 {ng : Nat} {skip : List Nat} {sm : Sm} {I : List MEnt → AHeap → World → Prop} (hN : Zbw skip P.funcs.toList 0 = true) (hS : Vt P gl sm) (hM : P.follows .mixedOrders = true)
    (hX : ∀ M H w, I M H w → Ya gl w) (hI : ∀ M H w M' H' w', I M H w → Ext M H w M' H' w' → I M' H' w') : EnvOk (K4 P ng skip sm) P I where
  tys := Zks P ng skip _
  fns := Zl1 hN
  carry := hI
  mixed := hM
  sm := fun f args H v H' M w cargs _ h st ha => hS f args H v H' M w cargs h (hX _ _ _ st.i) st.hr ha
end
structure Obj1 where
  n : Nat
  e : Nat
  g : Option Nat
  fz : Nat
  ro : Bool
  mr : Bool
  vs : List (Option AV)
structure Done where
  f : Nat
  args : List AV
  keep : List Nat
  v : AV
  os : List Obj1
section
variable {P : Program} {gl : List (Nat × List AV)}
theorem Ze6 {E : Env} {f : FuncId} {args : List AV} {cargs : List Value} {n : Nat} {v : AV} {H1 : AHeap} (hE : ∀ w, Ya gl w → EnvOk E P (Kept gl w)) (hgl : (gl.all fun x => Nat.blt x.1 E.ng) = true) (hf : (E.fn f).isSome = true)
    (ha : Zs (X2 E.ng 0) args cargs) (h : run E n (.call f args (W4 E.ng gl)) = some (.call (.ret v H1))) : Za7 P gl f cargs fun x H => x = v ∧ H = H1 := by
  intro w hw
  obtain ⟨fn, hfn⟩ := Option.isSome_iff_exists.1 hf
  have hr : HRel (X2 E.ng 0) (W4 E.ng gl) w := Zd6 (Wm _ _) fun g av hm => by
    have hg : g < E.ng := by
      have := List.all_eq_true.1 hgl _ hm
      simpa using this
    exact ⟨hg, by rw [Zbp _ 0 g hg]; simp, hw g av hm⟩
  have kp : Kept gl w (X2 E.ng 0) (W4 E.ng gl) w := ⟨hw, Keeps.refl w, fun b _ ⟨id, o, m, e, r, _⟩ => by rw [K0 _ _ id o e] at r; cases r⟩
  have := Qn (hE w hw) hfn (Zek (hE w hw) h ⟨hr, K9 E, kp⟩ ha)
  refine ⟨this.1, CallsIn.mono this.2 ?_⟩
  intro e w' hp
  cases e with
  | outgrown => exact hp.elim
  | panicked ch => obtain ⟨_, _, _, _, e, _⟩ := hp; cases e
  | returned cv =>
    obtain ⟨v2, H2, M', e, x1, x2, x3⟩ := hp
    cases e
    exact ⟨cv, v, H1, M', rfl, x2, (Yg hw).ext _ _ _ _ _ _ kp x1, x3, rfl, rfl⟩
theorem Zs.anyPlain {args : List AV} (h : ∀ v ∈ args, Plain v) {M : List MEnt} {cargs : List Value} (ha : Zs M args cargs) (M' : List MEnt) : Zs M' args cargs := by
  have hr : ∀ (l : List AV), (∀ v ∈ l, Plain v) → Zat 0 [] l = some l := by
    intro l
    induction l with
    | nil => intro _; rfl
    | cons a l ih => intro h; simp only [Zat, h a List.mem_cons_self 0 [], ih fun v hv => h v (List.mem_cons_of_mem _ hv)]
  exact Ky (b := 0) (keep := []) (fun k i hk => by simp at hk) args args cargs (hr args h) ha
theorem Zqw (s : List UInt8) : Plain (.str s) := fun _ _ => rfl
theorem Ziy (k : IntKind) (n : Int) : Plain (.int k n) := fun _ _ => rfl
theorem Zgu (b : Bool) : Plain (.bool b) := fun _ _ => rfl
end
def Zb2 (f : Nat) (b : Bool) : Sm := fun g args H => match args with
  | [] => bif Nat.beq g f then some (.bool b, H) else none
  | _ => none
theorem Zk3 {P : Program} {gl : List (Nat × List AV)} {f : Nat} {b : Bool} (h : ∀ w, Ya gl w → (callFunc f #[]).run P w = .ok (.enter f #[]) w ∧ Calls P f #[] w fun e w' => e = .returned (.bool b) ∧ Keeps w w') : Vt P gl (Zb2 f b) := by
  intro g args H v H' M w cargs hs hw hr ha
  unfold Zb2 at hs
  split at hs
  case h_2 => cases hs
  cases hb : Nat.beq g f with
  | false => rw [hb] at hs; cases hs
  | true =>
    rw [hb] at hs
    simp only [cond_true, Option.some.injEq, Prod.mk.injEq] at hs
    obtain ⟨rfl, rfl⟩ := hs
    rw [Nat.beq_eq] at hb
    subst hb
    match cargs, ha with
    | [], _ =>
      obtain ⟨h1, h2⟩ := h w hw
      refine .inr ⟨h1, callsIn_wide.2 (h2.mono fun e w' ⟨he, hk⟩ => ?_)⟩
      subst he
      obtain ⟨x1, x2⟩ := hk.ext hr
      exact ⟨_, _, M, rfl, x1, x2, rfl⟩
def Zy1 {α : Type} (a b : Smk α) (c : FuncId → Bool) : Smk α := fun f args H k => bc (c f) (a f args H k) (b f args H k)
theorem Qb.or {α : Type} {E : Env} {a b : Smk α} {c : FuncId → Bool} (ha : ∀ f args H k r, c f = true → a f args H k = some r → ∃ v H', E.sm f args H = some (v, H') ∧ k v H' = some r) (hb : Qb E b) : Qb E (Zy1 a b c) := by
  intro f args H k r h
  unfold Zy1 at h
  cases hc : c f with
  | true => rw [hc] at h; exact ha f args H k r hc h
  | false => rw [hc] at h; exact hb f args H k r h
theorem Zq6 {ng : Nat} {gl : List (Nat × List AV)} {fn : AFunc} {args : List AV} (ha : ∀ v ∈ args, Plain v) : Ren ng (List.range ng) (Xb fn args) (W4 ng gl) (Xb fn args) (Z6 ng []) where
  glob := fun g hg => by simp [hg]
  lt := fun i hi => by rw [Zgb]; simpa using hi
  nodup := List.nodup_range
  next := by simp [Z6, news]
  obj := fun k u h => by obtain ⟨_, _, hj⟩ := Qp h; simp at hj
  n := rfl
  rd := rfl
  df := ⟨rfl, rfl⟩
  t := fun i y hy => by
    refine ⟨y, hy, ?_⟩
    rcases Tr.get_putAll _ hy with ⟨q, rfl, hq⟩ | ⟨_, hu⟩
    · exact ha y (List.mem_of_getElem? hq) 0 _
    · simp [Tr.get_nil] at hu
end
end Go.Vai
end
section
namespace Go.Vai
noncomputable section
section
variable {P : Program} {M : List MEnt} {H : AHeap} {w : World} {gl : List (Nat × List AV)}
def jK : TRes → Wc → Option AV
  | .call (.ret v _), _ => Vq 0 [] v
  | _, _ => none
end
end
end Go.Vai
end
section
namespace Go.Vai
open Go.RowKit
section
variable {H : Type} {enc : TypeId × Value → H} {P : Program} {w : World} {base : Nat} {spare : Nat → Bool} {held : Bool}
def Zfv (ks : List CK) (n : Nat) (vs : List AV) : Prop := vs.length = n * ks.length ∧ ∀ i, i < n → Vw ks ((vs.drop (i * ks.length)).take ks.length)
theorem chunks {ks : List CK} {q : Nat} (hq : ks.length = q) (cur : List Value) (off : Nat) : ∀ (n : Nat), (∀ i, i < n → ∃ asz, Vw ks asz ∧ Zs [] asz ((cur.drop (off + i * q)).take q) ∧ asz.length = q) → off + n * q ≤ cur.length →
    ∃ vs, Zfv ks n vs ∧ Zs [] vs ((cur.drop off).take (n * q))
  | 0, _, _ => ⟨[], ⟨by simp, fun i h => by omega⟩, by simp [Zs]⟩
  | n + 1, h, hl => by
    have e1 : (n + 1) * q = n * q + q := Nat.succ_mul n q
    obtain ⟨vs, h1, h2⟩ := chunks hq cur off n (fun i hi => h i (by omega)) (by omega)
    obtain ⟨asz, a1, a2, a3⟩ := h n (by omega)
    refine ⟨vs ++ asz, ⟨by rw [List.length_append, h1.1, a3, hq, e1], fun i hi => ?_⟩, ?_⟩
    · by_cases e : i < n
      · have : i * q + q ≤ n * q := by rw [← Nat.succ_mul]; exact Nat.mul_le_mul_right q e
        rw [hq, List.drop_append_of_le_length (by rw [h1.1, hq]; omega), List.take_append_of_le_length (by rw [List.length_drop, h1.1, hq]; omega)]
        have := h1.2 i e
        rwa [hq] at this
      · obtain rfl : i = n := by omega
        rw [hq, List.drop_left' (by rw [h1.1, hq])]
        rw [List.take_of_length_le (by omega)]
        exact a1
    · rw [e1, List.take_add, List.drop_drop]
      exact h2.append a2
theorem Zkp (b o j : Nat) : (Addr.mk b o none).add j = ⟨b, o + j, none⟩ := by
  unfold Addr.add
  split
  · rename_i e; subst e; rfl
  · rfl
theorem open_row {t e : TypeId} {ks : List CK} {v : Value} {d : DataW H} {ps : List MemPlace} {dd : Nat} (hu : P.underlying t = some (.slice e)) (hk : Zc3 P dd e = some ks) (hc : P.cellsOf e = ks.length) (hpos : 0 < ks.length) (hv : Value.okWide P w .any 0 t v) (hd : DataW.Trod enc P w base spare held t v d ps) :
    v = .slice none 0 0 ∨ (∃ a cap, v = .slice (some a) 0 cap) ∨ ∃ (b off len cap : Nat) (vs : List AV), v = .slice (some ⟨b, off, none⟩) len cap ∧ 0 < len ∧ len ≤ cap ∧ cap ≤ maxLen ∧ Zfv ks len vs ∧
      ∃ cur e' lo hi, w.heap[b]? = some (.cells cur e' (lo, hi)) ∧ off + len * ks.length ≤ cur.size ∧ Zs [] vs ((cur.toList.drop off).take (len * ks.length)) := by
  obtain ⟨n, hn⟩ := hd
  rcases DataW.trod_slice hu hn with ⟨h1, _⟩ | ⟨a, len, cap, elems, rest, m, _, h1, _, _, h2, h3, h4, h5, _⟩
  · left
    cases v <;> simp_all [Value.cells]
    simp [Value.okWide, hu, Cell.okWide, Cell.ok] at hv
  · right
    have hv' : v = .slice (some a) len cap := by
      cases v <;> simp_all [Value.cells]
      simp [Value.okWide, hu, Cell.okWide, Cell.ok] at hv
    subst hv'
    have hspot : a.spot = none := by
      simp only [Value.okWide, hu, Cell.okWide, Cell.ok] at hv
      exact hv.2.2.2.1
    obtain ⟨b, off, sp⟩ := a
    simp only at hspot; subst hspot
    by_cases hl : len = 0
    · subst hl; exact .inl ⟨_, _, rfl⟩
    right
    have addr : ∀ k, (Addr.mk b off none).add k = ⟨b, off + k, none⟩ := fun k => by
      unfold Addr.add
      split
      · rename_i e; subst e; rfl
      · rfl
    have cell : ∀ i, i < len → ∃ x cs, w.cells? base ⟨b, off + i * P.cellsOf e, none⟩ (P.cellsOf e) = some cs ∧ DataW.trod enc P w base spare held m e cs = some x := fun i hi => by
      have := h5 i hi
      rw [addr, List.getElem?_eq_getElem (by omega), Option.bind_eq_some_iff] at this
      obtain ⟨cs, c1, c2⟩ := this
      exact ⟨_, cs, c1, c2⟩
    obtain ⟨x0, cs0, c0, _⟩ := cell 0 (by omega)
    obtain ⟨_, hl0, hc0⟩ := World.cells?_some c0
    have hcell0 := hc0 0 (by rw [hc]; exact hpos)
    have hheap : ∃ cur e' lh, w.heap[b]? = some (.cells cur e' lh) := by
      rw [Zkp b (off + 0 * P.cellsOf e) 0] at hcell0
      unfold World.cell? at hcell0
      simp only at hcell0
      split at hcell0
      · rename_i cur e' lh hh; exact ⟨cur, e', lh, hh⟩
      · rw [List.getElem?_eq_getElem (by rw [hl0, hc]; exact hpos)] at hcell0; cases hcell0
    obtain ⟨cur, e', ⟨lo, hi⟩, hh⟩ := hheap
    have at_ : ∀ i, i < len → ∀ j, j < ks.length → ∃ cv, cur[off + i * ks.length + j]? = some cv := fun i hi j hj => by
      obtain ⟨x, cs, c1, _⟩ := cell i hi
      obtain ⟨_, hl1, hc1⟩ := World.cells?_some c1
      have := hc1 j (by rw [hc]; exact hj)
      rw [Zkp] at this
      unfold World.cell? at this
      simp only [hh] at this
      rw [hc, List.getElem?_eq_getElem (by rw [hl1, hc]; exact hj)] at this
      exact ⟨_, by simpa using this⟩
    have size : off + len * ks.length ≤ cur.size := by
      obtain ⟨cv, h⟩ := at_ (len - 1) (by omega) (ks.length - 1) (by omega)
      have h1 := (Array.getElem?_eq_some_iff.1 h).1
      have h2 : len * ks.length = (len - 1) * ks.length + ks.length := by rw [← Nat.succ_mul]; congr 1; omega
      omega
    have chunk : ∀ i, i < len → ∃ asz, Vw ks asz ∧ Zs [] asz ((cur.toList.drop (off + i * ks.length)).take ks.length) ∧ asz.length = ks.length := fun i hi => by
      obtain ⟨x, cs, c1, c2⟩ := cell i hi
      obtain ⟨asz, s1, s2, s3⟩ := Zn8 dd m e ks cs x hk c2
      obtain ⟨_, hl1, hc1⟩ := World.cells?_some c1
      have he : cs = (cur.toList.drop (off + i * ks.length)).take ks.length := by
        refine List.ext_getElem? fun j => ?_
        by_cases hj : j < ks.length
        · have h3 := hc1 j (by rw [hc]; exact hj)
          rw [Zkp] at h3
          unfold World.cell? at h3
          simp only [hh] at h3
          rw [List.getElem?_take, if_pos hj, List.getElem?_drop, ← h3, hc]
          simp
        · rw [List.getElem?_eq_none (by omega), List.getElem?_eq_none (by rw [List.length_take]; omega)]
      rw [he] at s2
      exact ⟨asz, s1, s2, by rw [s2.length, ← he, s3]⟩
    obtain ⟨vs, v1, v2⟩ := chunks rfl cur.toList off len chunk (by simpa using size)
    exact ⟨b, off, len, cap, vs, rfl, by omega, h2, h3, v1, cur, e', lo, hi, hh, size, v2⟩
end
end Go.Vai
end
section
namespace Go.Vai
noncomputable section
inductive RA where
  | nil
  | none0
  | row (len cap q : Nat) (T : Tr AV)
def RA.av (id : Nat) : RA → AV
  | .nil => .nils
  | .none0 => .sl0
  | .row len cap _ _ => .sl id 0 len (some cap)
def RA.obj : RA → AObj
  | .nil => .cells 0 .nil 0 none 0 true false
  | .none0 => .cells 0 .nil 0 none 0 true false
  | .row len _ q T => .cells (len * q) T 0 none 0 true false
def RA.len : RA → Nat
  | .nil => 0
  | .none0 => 0
  | .row len _ _ _ => len
section
variable {H : Type} {enc : TypeId × Value → H} {P : Program} {w : World} {base : Nat} {spare : Nat → Bool} {held : Bool}
end
section
variable {P : Program} {E : Env} {gl : List (Nat × List AV)} {w : World}
theorem Zea {ng : Nat} {ex : List MEnt} {os : List AObj} (hl : ex.length = os.length) (hro : ∀ o ∈ os, o.isRo = true) (ho : ∀ (j : Nat) m o, ex[j]? = some m → os[j]? = some o → Wj [] m w o) : HRel (X2 ng 0 ++ ex) (Z6 ng os) w := by
  have at_ : ∀ j, (X2 ng 0 ++ ex)[ng + j]? = ex[j]? := fun j => by
    rw [List.getElem?_append_right (by rw [Wm]; omega), Wm]; congr 1; omega
  refine ⟨?_, fun id o h => ?_, fun i j o p m k hi hj _ _ _ _ => ?_⟩
  · have e : (Z6 ng os).next = ng + os.length := Kz os _
    rw [e, List.length_append, Wm, hl]
  · obtain ⟨j, rfl, hj⟩ := Qp h
    have hjl := (List.getElem?_eq_some_iff.1 hj).1
    obtain ⟨m, hm⟩ : ∃ m, ex[j]? = some m := ⟨_, List.getElem?_eq_getElem (by omega)⟩
    exact ⟨m, by rw [at_, hm], (ho j m o hm hj).carry List.nil_prefix rfl⟩
  · obtain ⟨a, _, ha⟩ := Qp hi
    obtain ⟨b, _, hb⟩ := Qp hj
    exact ⟨hro o (List.mem_of_getElem? ha), hro p (List.mem_of_getElem? hb)⟩
end
end
end Go.Vai
end
section
namespace Go.Vai
noncomputable section
mutual
theorem Zj5 (b : Nat) : ∀ v : AV, Vq b [] v = Vq 0 [] v
  | .ptr _ _ => rfl
  | .sl _ _ _ _ => rfl
  | .yld _ => rfl
  | .mapv _ => rfl
  | .nilm => rfl
  | .opq _ => rfl
  | .ext _ _ _ _ _ _ => rfl
  | .fn f x y => by simp only [Vq, Zbd b x, Zbd b y]
  | .iface t x => by simp only [Vq, Zj5 b x]
  | .agg l => by simp only [Vq, Zbd b l]
  | .tup l => by simp only [Vq, Zbd b l]
  | .bool _ => rfl
  | .int _ _ => rfl
  | .str _ => rfl
  | .nilp => rfl
  | .nils => rfl
  | .sl0 => rfl
  | .nilf => rfl
  | .nili => rfl
theorem Zbd (b : Nat) : ∀ v : List AV, Zat b [] v = Zat 0 [] v
  | [] => rfl
  | v :: vs => by simp only [Zat, Zj5 b v, Zbd b vs]
end
def Z2 (F : Nat → List AV → Option AV) : Sm := fun f args H => Option.rec (motive := fun _ => Option (AV × AHeap)) none (fun v => some (v, H)) (F f args)
section
variable {P : Program} {gl : List (Nat × List AV)}
end
theorem Zkr {α : Type} (t : Tr α) {i : Nat} (j : Nat) (v : α) (h : i < 2 ^ 47) : (t.set i v).get j = if j = i then some v else t.get j := Tr.getF_eq 48 t i j (some v) (by omega)
theorem J7 {α : Type} : ∀ (vs : List α) (t : Tr α) (k j : Nat), k + vs.length ≤ 2 ^ 47 → (t.putAll k vs).get j = if k ≤ j ∧ j < k + vs.length then vs[j - k]? else t.get j
  | [], t, k, j, _ => by rw [if_neg (by simp only [List.length_nil]; omega)]; rfl
  | v :: vs, t, k, j, h => by
    simp only [List.length_cons] at h ⊢
    show ((t.set k v).putAll (k + 1) vs).get j = _
    rw [J7 vs _ _ _ (by omega), Zkr _ _ _ (by omega)]
    by_cases h1 : j = k
    · subst h1
      rw [if_neg (by omega), if_pos rfl, if_pos (by omega), Nat.sub_self]; rfl
    · rw [if_neg h1]
      by_cases h2 : k + 1 ≤ j ∧ j < k + 1 + vs.length
      · rw [if_pos h2, if_pos (by omega), show j - k = (j - (k + 1)) + 1 by omega, List.getElem?_cons_succ]
      · rw [if_neg h2, if_neg (by omega)]
section
variable {H : Type} {enc : TypeId × Value → H} {P : Program} {w : World} {base : Nat} {spare : Nat → Bool} {held : Bool}
end
section
open Go.RowKit
variable {H : Type} {enc : TypeId × Value → H} {P : Program} {w : World} {base : Nat} {spare : Nat → Bool} {held : Bool}
theorem Zto {t e : TypeId} {ks : List CK} {v : Value} {d : DataW H} {ps : List MemPlace} {dd : Nat} (hu : P.underlying t = some (.slice e)) (hk : Zc3 P dd e = some ks) (hc : P.cellsOf e = ks.length) (hpos : 0 < ks.length)
    (hv : Value.okWide P w .any 0 t v) (hd : DataW.Trod enc P w base spare held t v d ps) : v = .slice none 0 0 ∨ (∃ a cap, v = .slice (some a) 0 cap) ∨
    ∃ (len cap : Nat) (vs : List AV) (m : MEnt), 0 < len ∧ (∃ a, v = .slice (some a) len cap) ∧ len ≤ cap ∧ Zfv ks len vs ∧ Wj [] m w (.cells (len * ks.length) (Tr.nil.putAll 0 vs) 0 none 0 true false) ∧ ∀ M (id : Nat), M[id]? = some m → Zm M (.sl id 0 len (some cap)) v := by
  rcases open_row hu hk hc hpos hv hd with rfl | ⟨a, cap, rfl⟩ | ⟨b, off, len, cap, vs, rfl, hl, hlc, _, hs, cur, e', lo, hi, hh, hsz, hr⟩
  · exact .inl rfl
  · exact .inr (.inl ⟨a, cap, rfl⟩)
  · refine .inr (.inr ⟨len, cap, vs, ⟨b, off, 0, 0⟩, hl, ⟨_, rfl⟩, hlc, hs, ⟨cur, e', lo, hi, hh, (fun e => by cases e), hsz, (fun gs e => by cases e), (fun e => by cases e), (fun e => by cases e), fun i v h => ?_⟩, fun M id hm => ⟨⟨b, off, 0, 0⟩, cap, hm, by simp, (fun d e => by cases e; rfl), fun e => by cases e⟩⟩)
    have hv : vs[i]? = some v := by
      rcases Tr.get_putAll _ h with ⟨q, rfl, hq⟩ | ⟨_, hu⟩
      · simpa using hq
      · simp [Tr.get_nil] at hu
    have hi : i < vs.length := (List.getElem?_eq_some_iff.1 hv).1
    rw [hs.1] at hi
    obtain ⟨cv, c1, c2⟩ := hr.get i v hv
    refine ⟨hi, cv, ?_, c2⟩
    rw [List.getElem?_take, if_pos hi, List.getElem?_drop] at c1
    simpa using c1
end
end
end Go.Vai
end
section
namespace Go.Vai
noncomputable section
def at_ : List Nat → AV → AV
  | [], v => v
  | i :: p, .tup l => at_ p (l.getD i .nilp)
  | i :: p, .agg l => at_ p (l.getD i .nilp)
  | _ :: _, v => v
section
variable {P : Program} {gl : List (Nat × List AV)}
end
end
end Go.Vai
end
section
namespace Go.Vai
noncomputable section
def Zp4 : List UInt8 → List UInt8 → Bool
  | [], _ => true
  | _ :: _, [] => false
  | b :: bs, a :: l => bif Nat.beq b.toNat a.toNat then Zp4 bs l else false
def Zu1 : List UInt8 → List UInt8 → Bool
  | [], sub => Zp4 sub []
  | a :: l, sub => bif Zp4 sub (a :: l) then true else Zu1 l sub
theorem Zph : ∀ b a : List UInt8, Zp4 b a = b.isPrefixOf a
  | [], a => by cases a <;> rfl
  | _ :: _, [] => rfl
  | b :: bs, a :: l => by
    rw [Zp4, Zph bs l]
    show _ = ((b == a) && bs.isPrefixOf l)
    by_cases h : b = a
    · subst h; simp
    · have : Nat.beq b.toNat a.toNat = false := by
        rw [Bool.eq_false_iff]
        intro e
        rw [Nat.beq_eq] at e
        exact h (UInt8.toNat_inj.1 e)
      rw [this, beq_false_of_ne h]
      rfl
theorem Zpa : ∀ s sub : List UInt8, Zu1 s sub = Lib.contains s sub
  | [], sub => by
    unfold Lib.contains Lib.index Zu1
    cases sub <;> simp [Zp4]
  | a :: l, sub => by
    have ih := Zpa l sub
    unfold Lib.contains at ih ⊢
    unfold Lib.index Zu1
    rw [ih, Zph, Bool.cond_eq_ite]
    have h := Lib.index_ge l sub
    by_cases h1 : sub.isPrefixOf (a :: l) = true
    · simp [h1]
    · simp only [h1, Bool.false_eq_true, if_false, beq_iff_eq]
      by_cases h2 : Lib.index l sub = -1
      · simp [h2]
      · rw [if_neg h2]
        congr 1
        apply propext
        constructor <;> intro _ <;> omega
def Za4 (f : Nat) : Sm := fun g args H => match args with
  | [.str a, .str b] => bif Nat.beq g f && Nat.blt a.length 4294967281 then some (.bool (Zu1 a b), H) else none
  | _ => none
theorem Zmb {gl : List (Nat × List AV)} {g : Nat} {k : IntKind} {w : World} (hg : (g, [.opq (some k)]) ∈ gl) (hw : Ya gl w) : ∃ m, w.cell? ⟨g, 0, none⟩ = some (.int k m) := by
  obtain ⟨cs, e, lo, hi, h1, h2⟩ := hw g _ hg
  have hl := h2.length
  obtain ⟨v, hv, _, _, h3⟩ := h2.get 0 _ rfl
  obtain ⟨m, rfl⟩ := h3 k rfl
  refine ⟨m, ?_⟩
  simp only [World.cell?, h1]
  simpa using hv
theorem Zx4 {P : Program} {ρ : Shelf.Ren} (L : Go.Proofs.Lays.n144 P ρ) {gl : List (Nat × List AV)} (hg : (ρ.g 1, [.opq (some .i64)]) ∈ gl) : Vt P gl (Za4 (ρ.f 144)) := by
  intro g args H v H' M w cargs hs hw hr ha
  unfold Za4 at hs
  split at hs
  case h_2 => cases hs
  rename_i a b
  cases hb : Nat.beq g (ρ.f 144) && Nat.blt a.length 4294967281 with
  | false => rw [hb] at hs; cases hs
  | true =>
    rw [hb] at hs
    simp only [cond_true, Option.some.injEq, Prod.mk.injEq] at hs
    obtain ⟨rfl, rfl⟩ := hs
    rw [Bool.and_eq_true, Nat.beq_eq, Nat.blt_eq] at hb
    obtain ⟨rfl, hl⟩ := hb
    match cargs, ha with
    | [x, y], ha =>
      obtain ⟨h1, h2, _⟩ := ha
      simp only [Zm] at h1 h2
      subst h1; subst h2
      obtain ⟨m, hm⟩ := Zmb hg hw
      have e : ∀ args w, (callFunc (ρ.f 144) args).run P w = .ok (.enter (ρ.f 144) args) w := Go.Proofs.enters_of L.f144 (by kernel_rfl) rfl
      refine .inr ⟨e _ _, callsIn_wide.2 ((Go.Proofs.Any.strings_Contains L ⟨a.toArray⟩ ⟨b.toArray⟩ m w (by simpa [ByteArray.size] using hl) hm).mono fun e w' he => ?_)⟩
      obtain ⟨rfl, rfl⟩ := he
      obtain ⟨x1, x2⟩ := (Keeps.refl w').ext hr
      exact ⟨_, _, M, rfl, x1, x2, by simp [Zm, Zpa]⟩
end
end Go.Vai
end
section
namespace Go.Vai
theorem Zwz {k : IntKind} {n : Nat} (h : n < Zqk k) : inR k (.ofNat n) = true := by
  show Nat.blt n _ = true
  rw [Nat.blt_eq]; exact h
theorem Zi2 {k : IntKind} {n : Nat} (h : n < Zqk k) : Zb k (.ofNat n) = .ofNat n := by
  unfold Zb
  rw [Zwz h]; rfl
theorem wrap_i64 {n : Nat} (h : n < 9223372036854775808) : Zb .i64 (.ofNat n) = .ofNat n := Zi2 (Nat.lt_of_lt_of_le h (by decide))
theorem Zye (a b : Nat) : Int.add (.ofNat a) (.ofNat b) = .ofNat (a + b) := rfl
theorem Jd (a b : Nat) : Int.tmod (.ofNat a) (.ofNat b) = .ofNat (a % b) := rfl
theorem Z0 (a : Nat) : Int.toNat (.ofNat a) = a := rfl
theorem Zop (a b : Nat) : Yi (.ofNat a) (.ofNat b) = Nat.blt a b := rfl
theorem Zbv (a b : Nat) : Vx (.ofNat a) (.ofNat b) = Nat.beq a b := rfl
theorem Zz {n es : Nat} (h : n ≤ 100000) (he : es ≤ 1000) : Z3 n es = true := by
  unfold Z3
  rw [Bool.or_eq_true, Nat.ble_eq]
  refine .inl ?_
  exact Nat.le_trans (Nat.mul_le_mul (Nat.succ_le_succ h) (Nat.succ_le_succ he)) (by decide)
end Go.Vai
end
section
namespace Go.Vai
noncomputable section
section
variable {P : Program} {gl : List (Nat × List AV)} {E : Env}
theorem Zin {M : List MEnt} {v : AV} {cv : Value} (hp : Plain v) (h : Zm M v cv) (M' : List MEnt) : Zm M' v cv :=
  Vn (b := 0) (keep := []) (fun k i hk => by simp at hk) v v cv (hp 0 []) h
theorem Zn5 {f : FuncId} {fn : AFunc} {args : List AV} {cargs : List Value} {u : AV} {M : List MEnt} {H : AHeap} {w : World} {os : List AObj} {ex : List MEnt} (hE : ∀ w, Ya gl w → EnvOk E P (Kept gl w)) (hf : E.fn f = some fn) (hw : Ya gl w) (hr : HRel M H w)
    (hl : ex.length = os.length) (hro : ∀ o ∈ os, o.isRo = true) (ho : ∀ (j : Nat) m o, ex[j]? = some m → os[j]? = some o → Wj [] m w o) (ha : Zs (X2 E.ng 0 ++ ex) args cargs)
    (hp : Plain u) (h : Wv E P (Kept gl w) none fn.body (Xb fn args) (Z6 E.ng os) fun e fr H => (e = .normal ∨ e = .ret) ∧ fr.df = [] ∧ ∃ keep fr' H' l, Ren E.ng keep fr H fr' H' ∧ Q6 E fr'.t H' fn.results = some l ∧ Zd0 l = u) : Vy P f cargs M H w (.ret u H) := by
  obtain ⟨Fn, hF⟩ := (hE w hw).fns f fn hf
  have hr0 := Zea (ng := E.ng) hl hro ho
  have kp : Kept gl w (X2 E.ng 0 ++ ex) (Z6 E.ng os) w := ⟨hw, Keeps.refl w, fun b _ ⟨id, o, m, e, r, _⟩ => by
    obtain ⟨j, _, hj⟩ := Qp e
    rw [hro o (List.mem_of_getElem? hj)] at r; cases r⟩
  refine .inr ⟨Km hF _, callsIn_of_wp hF.at_ hF.body trivial ?_⟩
  refine wpIn_mono (h _ w _ ⟨hr0, (K9 E).mono (List.prefix_append _ _), kp⟩ (K8 hF ha)) ?_
  rintro ex1 a1 w1 ⟨e, fr, H1, M1, ⟨he, hd, keep, fr2, H2, l, ren, hl1, hu⟩, s1, er, f1⟩
  have hdf : a1.defers = [] := by
    have := f1.df
    rw [hd] at this
    generalize a1.defers = x at this ⊢
    cases this; rfl
  rw [← hF.res] at hl1
  obtain ⟨M2, s2, f2⟩ := ren.to (Yg hw) s1 f1
  obtain ⟨cv, r1, r2⟩ := Wn (hE w hw).tys s2.hr f2.t hl1
  rw [hu] at r2
  have hv : Zm M u cv := Zin hp r2 M
  have kk := s1.i.2.1
  have fin : Xv M H w (.ret u H) (.returned cv) w1 :=
    ⟨u, H, M, rfl, ⟨List.prefix_refl _, kk.size, kk.os, kk.tape, kk.output, fun b hb hn => ⟨kk.old b hb, hn⟩, fun _ _ hn => hn⟩, ⟨hr.len, fun id o e => by
      obtain ⟨m, hm, r⟩ := hr.obj id o e
      exact ⟨m, hm, r.carry (List.prefix_refl _) (kk.old _ r.lt)⟩, hr.inj⟩, hv⟩
  rcases he with rfl | rfl
  · simp only [X3] at er; subst er
    exact ⟨hdf, cv, r1, fin⟩
  · simp only [X3] at er; subst er
    exact ⟨hdf, cv, r1, fin⟩
end
end
end Go.Vai
end
section
namespace Go.Vai
noncomputable section
def Z3j (b0 b1 b2 b3 : Int) : Int := Zb .u32 (orI .u32 (Zb .u32 (orI .u32 (Zb .u32 (orI .u32 (Zb .u32 b0) (Zb .u32 (Zqn (Zb .u32 b1) 8)))) (Zb .u32 (Zqn (Zb .u32 b2) 16)))) (Zb .u32 (Zqn (Zb .u32 b3) 24)))
theorem Zwv {M : List MEnt} {m : MEnt} {w : World} {n : Nat} {T T2 : Tr AV} {e : TypeId} {g : Option Nat} {fz : Nat} {ro mk : Bool} (h : Wj M m w (.cells n T e g fz ro mk)) (hT : ∀ i v, T2.get i = some v → T.get i = some v ∧ Plain v) (e2 : TypeId) : Wj [] m w (.cells n T2 e2 none 0 true false) := by
  obtain ⟨cur, e', lo, hi, h1, h2, h3, h4, h5, h6, h7⟩ := h
  refine ⟨cur, e', lo, hi, h1, (fun e => by cases e), h3, (fun gs e => by cases e), (fun e => by cases e), (fun e => by cases e), fun i v hv => ?_⟩
  obtain ⟨hg, hp⟩ := hT i v hv
  obtain ⟨a, cv, b, c⟩ := h7 i v hg
  exact ⟨a, cv, b, Zin hp c []⟩
end
end Go.Vai
end
section
namespace Go.Vai
noncomputable section
variable {α : Type}
end
end Go.Vai
end
section
namespace Go.Vai
end Go.Vai
end
