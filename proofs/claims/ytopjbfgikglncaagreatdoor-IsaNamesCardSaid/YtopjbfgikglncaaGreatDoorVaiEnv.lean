/- The interpreter's tables, read off a program; they are what the interpreter asks them to be; a closed call. -/
import Derived.Test.YtopjbfgikglncaaGreatDoorVaiRun
namespace Go.Vai

def adOf (P : Program) (t : Nat) : TypeDesc → AD
  | .int k => .int k
  | .bool => .bool
  | .string => .str
  | .pointer e => .ptr e
  | .slice e => .slice e
  | .array n e => .array n e
  | .struct fs => .struct (fs.toList.map fun f => (f.offset, f.type)) (fs.toList.all (fun f => f.name != "_") && (!(P.stoodInHeld t) && !(P.eqGuardType P.depth t)))
  | .func _ _ _ => .func
  | .interface _ => .iface
  | .unsafePointer => .uptr
  | .map k e => .map k e
  | _ => .other

def zeroOk (d : TypeDesc) (z : Value) : Bool :=
  bif isAggD d then (match z with | .agg _ => true | _ => false) else z.oneCell'
def fieldsOk (P : Program) : TypeDesc → Bool
  | .struct fs => fs.toList.all fun f => (P.info? f.type).isSome
  | _ => true

def tyOf (P : Program) (t : Nat) : Option ATy :=
  match P.info? t, P.underlying t with
  | some i, some d => match i.zero with
    | some z => match ofCells z.cells.toList with
      | some zs => bif Nat.beq z.cells.size i.size && (zeroOk d z && fieldsOk P d) then
          some { d := adOf P t d, size := i.size, bytes := i.bytes, zero := zs, agg := isAggD d, cmp := i.comparable } else none
      | none => none
    | none => none
  | _, _ => none

def memN (n : Nat) : List Nat → Bool
  | [] => false
  | x :: xs => Nat.beq n x || memN n xs

def fnOf (P : Program) (skip : List Nat) (f : Nat) : Option AFunc :=
  match P.funcs[f]? with
  | some fn => match fn.body with
    | some c => bif memN f skip then none else some { ntmps := fn.ntmps, body := c, results := fn.results.toList }
    | none => none
  | none => none

def namesOk (skip : List Nat) : List Func → Nat → Bool
  | [], _ => true
  | fn :: fs, i => (memN i skip || !(fn.name == "runtime.NumGoroutine")) && namesOk skip fs (i + 1)

def envOf (P : Program) (ng : Nat) (skip : List Nat) (sm : Nat → List AV → AHeap → Option (AV × AHeap)) : Env := { ng, ra := fun e u n off k => liesAt P P.depth e (n / P.cellsOf e) off u k, ty := tyOf P, fn := fnOf P skip, sm }

theorem adOf_rel (P : Program) (t : Nat) (d : TypeDesc) : DRel P t (adOf P t d) d := by
  cases d <;> simp only [adOf, DRel]
  case struct fs =>
    refine ⟨fs, rfl, rfl, fun h => ?_⟩
    simp only [Bool.and_eq_true, Bool.not_eq_true', List.all_eq_true, bne_iff_ne, ne_eq] at h
    exact ⟨h.1, h.2.1, h.2.2⟩
  all_goals first | exact ⟨_, _, _, rfl⟩ | exact ⟨_, rfl⟩ | (intro ms h; cases h)

theorem tysOk_of (P : Program) (ng : Nat) (skip : List Nat) (sm : Nat → List AV → AHeap → Option (AV × AHeap)) : TysOk (envOf P ng skip sm) P := by
  have main : ∀ t ti, tyOf P t = some ti → ∃ i d z, TyOk P t ti i d z ∧ fieldsOk P d = true := by
    intro t ti h
    unfold tyOf at h
    split at h
    case h_2 => cases h
    rename_i i d hi hd
    split at h
    case h_2 => cases h
    rename_i z hz
    split at h
    case h_2 => cases h
    rename_i zs hzs
    simp only [Bool.cond_eq_ite, Bool.and_eq_true, Nat.beq_eq] at h
    split at h
    case isFalse => cases h
    rename_i hc
    simp only [Option.some.injEq] at h
    subst h
    refine ⟨i, d, z, ⟨hi, hd, adOf_rel P t d, rfl, rfl, hz, ofCells_rel [] _ _ hzs, hc.1, rfl, fun ha => ?_, fun ha => ?_, fun h => h⟩, hc.2.2⟩
    · have := hc.2.1
      simp only [zeroOk] at this
      simp only at ha
      rw [ha] at this
      simp only [cond_true] at this
      cases z <;> simp_all
    · have := hc.2.1
      simp only [zeroOk] at this
      simp only at ha
      rw [ha] at this
      simpa using this
  refine ⟨fun e u n off k h => h, fun t ti h => ?_, fun t ti F h hu f hf => ?_⟩
  · obtain ⟨i, d, z, r, _⟩ := main t ti h
    exact ⟨i, d, z, r⟩
  · obtain ⟨i, d, z, r, fo⟩ := main t ti h
    rw [r.und] at hu
    cases hu
    simp only [fieldsOk, List.all_eq_true] at fo
    exact Option.isSome_iff_exists.1 (fo f hf)

theorem namesOk_at {skip : List Nat} : ∀ (fs : List Func) (i : Nat), namesOk skip fs i = true → ∀ (k : Nat) (fn : Func), fs[k]? = some fn → memN (i + k) skip = false → (fn.name == "runtime.NumGoroutine") = false := by
  intro fs
  induction fs with
  | nil => intro i _ k fn h; simp at h
  | cons g fs ih =>
    intro i h k fn hk hm
    simp only [namesOk, Bool.and_eq_true, Bool.or_eq_true, Bool.not_eq_true'] at h
    cases k with
    | zero =>
      simp at hk; subst hk
      rcases h.1 with h1 | h1
      · rw [Nat.add_zero] at hm; rw [hm] at h1; cases h1
      · exact h1
    | succ k => exact ih (i + 1) h.2 k fn (by simpa using hk) (by rw [← hm]; congr 1; omega)

theorem fnsOk_of {P : Program} {ng : Nat} {skip : List Nat} {sm : Nat → List AV → AHeap → Option (AV × AHeap)} (hN : namesOk skip P.funcs.toList 0 = true) : ∀ f fn, (envOf P ng skip sm).fn f = some fn → ∃ Fn, FnOk P f fn Fn := by
  intro f fn h
  simp only [envOf, fnOf] at h
  split at h
  case h_2 => cases h
  rename_i Fn hF
  split at h
  case h_2 => cases h
  rename_i c hc
  cases hm : memN f skip with
  | true => simp [hm] at h
  | false =>
    simp only [hm, cond_false, Option.some.injEq] at h
    subst h
    exact ⟨Fn, hF, hc, rfl, rfl, namesOk_at _ 0 hN f Fn (by simpa using hF) (by simpa using hm)⟩

/-- What the interpreter starts from: the package-level variables by name, of none of which anything is known. -/
def mGlob : Nat → Nat → List MEnt
  | 0, _ => []
  | n + 1, i => ⟨i, 0, 0, 0⟩ :: mGlob n (i + 1)
theorem mGlob_len : ∀ (n i : Nat), (mGlob n i).length = n
  | 0, _ => rfl
  | n + 1, i => by simp [mGlob, mGlob_len n (i + 1)]
theorem mGlob_get : ∀ (n i g : Nat), g < n → (mGlob n i)[g]? = some ⟨i + g, 0, 0, 0⟩
  | 0, _, _, h => by omega
  | n + 1, i, 0, _ => by simp [mGlob]
  | n + 1, i, g + 1, h => by
    simp only [mGlob, List.getElem?_cons_succ]
    rw [mGlob_get n (i + 1) g (by omega)]
    congr 2; omega

/-- A list of objects behind the package-level variables. -/
def bare (ng : Nat) : AHeap := { objs := .nil, next := ng }
theorem hrel_bare (ng : Nat) (w : World) : HRel (mGlob ng 0) (bare ng) w :=
  ⟨mGlob_len ng 0, fun id o h => (by cases h), fun i j o p m k h => (by cases h)⟩
theorem grel_glob (E : Env) : GRel E (mGlob E.ng 0) := fun g hg => ⟨_, mGlob_get E.ng 0 g hg, by simp, rfl⟩

def TRes.isB (b : Bool) : Option TRes → Bool
  | some (.call (.ret (.bool c) _)) => b == c
  | _ => false
theorem TRes.isB_some {b : Bool} {r : Option TRes} (h : TRes.isB b r = true) : ∃ H, r = some (.call (.ret (.bool b) H)) := by
  unfold TRes.isB at h
  split at h
  · simp only [beq_iff_eq] at h; subst h; exact ⟨_, rfl⟩
  · cases h

/-- Worlds that hold all that an older one held. -/
structure Keeps (w w' : World) : Prop where
  size : w.heap.size ≤ w'.heap.size
  os : w'.os = w.os
  tape : w'.tape = w.tape
  output : w'.output = w.output
  old : ∀ b, b < w.heap.size → w'.heap[b]? = w.heap[b]?
theorem Ext.keeps {ng : Nat} {w w' : World} {M' : List MEnt} {H' : AHeap} (h : Ext (mGlob ng 0) (bare ng) w M' H' w') : Keeps w w' :=
  ⟨h.size, h.os, h.tape, h.output, fun b hb => (h.old b hb (fun ⟨id, o, m, e, _⟩ => (by cases e))).1⟩

/-- No summary. -/
def noSm : Nat → List AV → AHeap → Option (AV × AHeap) := fun _ _ _ => none

/-- A call without arguments that the interpreter answers by a truth value, whatever the world. -/
theorem closed_call {P : Program} {ng : Nat} {skip : List Nat} {sm : Nat → List AV → AHeap → Option (AV × AHeap)} (hE : ∀ w, EnvOk (envOf P ng skip sm) P (fun M H w' => Ext (mGlob ng 0) (bare ng) w M H w'))
    {n : Nat} {f : FuncId} {b : Bool} (hf : ((envOf P ng skip sm).fn f).isSome = true) (h : TRes.isB b (run (envOf P ng skip sm) n (.call f [] (bare ng))) = true) (w : World) :
    Calls P f #[] w fun e w' => e = .returned (.bool b) ∧ Keeps w w' := by
  obtain ⟨H', hr⟩ := TRes.isB_some h
  obtain ⟨fn, hfn⟩ := Option.isSome_iff_exists.1 hf
  have st : St (envOf P ng skip sm) (fun M H w' => Ext (mGlob ng 0) (bare ng) w M H w') (mGlob ng 0) (bare ng) w := ⟨hrel_bare ng w, grel_glob _, Ext.refl _ _ _⟩
  have := callsA_enters (hE w) hfn (run_sound (hE w) hr st (cargs := []) trivial)
  refine Calls.mono (callsIn_wide.1 this.2) ?_
  intro e w' hp
  cases e with
  | outgrown => exact hp.elim
  | panicked ch => obtain ⟨_, _, _, _, e, _⟩ := hp; cases e
  | returned cv =>
    obtain ⟨v, H2, M', e, x1, x2, x3⟩ := hp
    cases e
    simp only [VRel] at x3; subst x3
    exact ⟨rfl, x1.keeps⟩
end Go.Vai
