/- Arguments and listed variables of plain data, opened for the interpreter; a law's reading behind the call. -/
import Derived.Test.YtopjbfgikglncaaGreatDoorVaiTop
import Derived.Carry
import Derived.ChangeArms
import Derived.OpenShut
import Derived.Lib.LaidIn
namespace Go.Vai
open Go.RowKit

/-- What a cell of plain data is. -/
inductive CK where
  | int (k : IntKind) | str | bool

def CK.is : CK → AV → Prop
  | .int k, a => ∃ n, a = .int k n ∧ (Lit.int k n).wf = true
  | .str, a => ∃ s, a = .str s ∧ s.length ≤ maxLen
  | .bool, a => ∃ b, a = .bool b

def Shapes : List CK → List AV → Prop
  | [], [] => True
  | k :: ks, a :: as => k.is a ∧ Shapes ks as
  | _, _ => False
theorem Shapes.append : ∀ {ks ls : List CK} {as bs : List AV}, Shapes ks as → Shapes ls bs → Shapes (ks ++ ls) (as ++ bs)
  | [], _, [], _, _, h => h
  | _ :: _, _, _ :: _, _, h, g => ⟨h.1, Shapes.append h.2 g⟩

theorem Shapes.cons_inv {k : CK} {ks : List CK} : ∀ {l : List AV}, Shapes (k :: ks) l → ∃ a r, l = a :: r ∧ k.is a ∧ Shapes ks r
  | [], h => h.elim
  | a :: r, h => ⟨a, r, rfl, h.1, h.2⟩
theorem Shapes.nil_inv : ∀ {l : List AV}, Shapes [] l → l = []
  | [], _ => rfl
  | _ :: _, h => h.elim
theorem CK.str_inv {a : AV} (h : CK.str.is a) : ∃ s, a = .str s := by obtain ⟨s, e, _⟩ := h; exact ⟨s, e⟩
theorem CK.int_inv {k : IntKind} {a : AV} (h : (CK.int k).is a) : ∃ n, a = .int k n := by obtain ⟨s, e, _⟩ := h; exact ⟨s, e⟩

def flatFs (P : Program) (rec : TypeId → Option (List CK)) : List (TypeId × Nat) → Nat → Option (List CK)
  | [], _ => some []
  | (t, o) :: fs, at_ => match rec t with
    | some ks => bif Nat.beq o at_ && Nat.beq ks.length (P.cellsOf t) then (match flatFs P rec fs (at_ + ks.length) with
        | some r => some (ks ++ r)
        | none => none) else none
    | none => none
def flatT (P : Program) : Nat → TypeId → Option (List CK)
  | 0, _ => none
  | d + 1, t => match P.underlying t with
    | some (.int k) => some [.int k]
    | some .string => some [.str]
    | some .bool => some [.bool]
    | some (.struct fs) => match flatFs P (flatT P d) (fs.toList.map fun f => (f.type, f.offset)) 0 with
      | some ks => bif Nat.beq ks.length (P.cellsOf t) then some ks else none
      | none => none
    | _ => none

section
variable {H : Type} {enc : TypeId × Value → H} {P : Program} {w : World} {base : Nat} {spare : Nat → Bool} {held : Bool}

theorem flatFs_open {rec : TypeId → Option (List CK)} {n : Nat} (ih : ∀ t ks cs x, rec t = some ks → DataW.trod enc P w base spare held n t cs = some x → ∃ as, Shapes ks as ∧ VRels [] as cs ∧ cs.length = ks.length) :
    ∀ (fs : List (TypeId × Nat)) (at_ : Nat) (ks : List CK) (cs : List Value), flatFs P rec fs at_ = some ks → (∀ (i : Nat) f, fs[i]? = some f → ∃ x, DataW.trod enc P w base spare held n f.1 ((cs.drop f.2).take (P.cellsOf f.1)) = some x) → cs.length = at_ + ks.length →
      ∃ as, Shapes ks as ∧ VRels [] as (cs.drop at_) := by
  intro fs
  induction fs with
  | nil =>
    intro at_ ks cs h _ hl
    simp only [flatFs, Option.some.injEq] at h; subst h
    simp only [List.length_nil, Nat.add_zero] at hl
    exact ⟨[], trivial, by rw [List.drop_of_length_le (by omega)]; trivial⟩
  | cons f fs ihf =>
    intro at_ ks cs h hf hl
    obtain ⟨t, o⟩ := f
    simp only [flatFs] at h
    split at h
    case h_2 => cases h
    rename_i k1 hk1
    simp only [Bool.cond_eq_ite, Bool.and_eq_true, Nat.beq_eq] at h
    split at h
    case isFalse => cases h
    rename_i hc
    obtain ⟨rfl, hc2⟩ := hc
    split at h
    case h_2 => cases h
    rename_i r hr
    simp only [Option.some.injEq] at h; subst h
    simp only [List.length_append] at hl
    obtain ⟨x, hx⟩ := hf 0 (t, o) rfl
    obtain ⟨as, s1, s2, s3⟩ := ih t k1 _ x hk1 hx
    obtain ⟨bs, u1, u2⟩ := ihf (o + k1.length) r cs hr (fun i g hg => hf (i + 1) g (by simpa using hg)) (by omega)
    refine ⟨as ++ bs, s1.append u1, ?_⟩
    have : cs.drop o = (cs.drop o).take (P.cellsOf t) ++ cs.drop (o + k1.length) := by
      rw [← hc2, ← List.drop_drop, List.take_append_drop]
    rw [this]
    exact s2.append u2

theorem flatT_open : ∀ (d n : Nat) (t : TypeId) (ks : List CK) (cs : List Value) (x : DataW H × List MemPlace), flatT P d t = some ks → DataW.trod enc P w base spare held n t cs = some x → ∃ as, Shapes ks as ∧ VRels [] as cs ∧ cs.length = ks.length := by
  intro d
  induction d with
  | zero => intro n t ks cs x h; simp [flatT] at h
  | succ d ih =>
    intro n t ks cs x h hx
    simp only [flatT] at h
    split at h
    · rename_i k hu
      simp only [Option.some.injEq] at h; subst h
      obtain ⟨m, rfl, _, hw⟩ := DataW.trod_int hu hx
      exact ⟨[.int k m], ⟨⟨m, rfl, hw⟩, trivial⟩, ⟨rfl, trivial⟩, rfl⟩
    · rename_i hu
      simp only [Option.some.injEq] at h; subst h
      obtain ⟨s, rfl, _, hs⟩ := DataW.trod_string hu hx
      exact ⟨[.str s.data.toList], ⟨⟨_, rfl, by simpa using hs⟩, trivial⟩, ⟨by simp [VRel], trivial⟩, rfl⟩
    · rename_i hu
      simp only [Option.some.injEq] at h; subst h
      obtain ⟨b, rfl, _⟩ := DataW.trod_bool hu hx
      exact ⟨[.bool b], ⟨⟨b, rfl⟩, trivial⟩, ⟨rfl, trivial⟩, rfl⟩
    · rename_i fs hu
      split at h
      case h_2 => cases h
      rename_i ks' hks
      simp only [Bool.cond_eq_ite, Nat.beq_eq] at h
      split at h
      case isFalse => cases h
      rename_i hlen
      simp only [Option.some.injEq] at h; subst h
      obtain ⟨xs, m, rfl, _, hl, hxl, hf⟩ := DataW.trod_struct hu hx
      obtain ⟨as, s1, s2⟩ := flatFs_open (rec := flatT P d) (n := m) (fun t ks cs x a b => ih m t ks cs x a b) _ 0 ks' cs hks (fun i f hi => by
        simp only [List.getElem?_map, Option.map_eq_some_iff] at hi
        obtain ⟨g, hg, rfl⟩ := hi
        have hg' : fs[i]? = some g := by simpa using hg
        have := hf i g hg'
        have hi2 : i < xs.length := by rw [hxl]; exact (Array.getElem?_eq_some_iff.1 hg').1
        exact ⟨xs[i], by rw [this]; exact List.getElem?_eq_getElem hi2⟩) (by omega)
      exact ⟨as, s1, by simpa using s2, by omega⟩
    · cases h

/-- An argument of plain data. -/
theorem open_flat {t : TypeId} {ks : List CK} {v : Value} {d : DataW H} {ps : List MemPlace} {dd : Nat} (hk : flatT P dd t = some ks) (hd : DataW.Trod enc P w base spare held t v d ps) : ∃ as, Shapes ks as ∧ VRels [] as v.cells.toList := by
  obtain ⟨n, hn⟩ := hd
  obtain ⟨as, a, b, _⟩ := flatT_open dd n t ks _ _ hk hn
  exact ⟨as, a, b⟩

/-- An argument that is a slice: nil, or a header. -/
theorem open_slice {t e : TypeId} {v : Value} {d : DataW H} {ps : List MemPlace} (hu : P.underlying t = some (.slice e)) (hv : Value.okWide P w .any 0 t v) (hd : DataW.Trod enc P w base spare held t v d ps) :
    v = .slice none 0 0 ∨ ∃ (b off len cap : Nat), v = .slice (some ⟨b, off, none⟩) len cap ∧ len ≤ cap ∧ cap ≤ maxLen := by
  obtain ⟨n, hn⟩ := hd
  have one : v.cells.toList.length = 1 → v.oneCell' = true → v.cells.toList = [v] := by
    intro _ h; cases v <;> simp_all [Value.cells, Value.oneCell']
  rcases DataW.trod_slice hu hn with ⟨h1, _⟩ | ⟨a, len, cap, elems, rest, m, _, h1, _, _, h2, h3, _⟩
  · left
    cases v <;> simp_all [Value.cells]
    simp [Value.okWide, hu, Cell.okWide, Cell.ok] at hv
  · right
    have hv' : v = .slice (some a) len cap := by
      cases v <;> simp_all [Value.cells]
      simp [Value.okWide, hu, Cell.okWide, Cell.ok] at hv
    subst hv'
    have : a.spot = none := by
      simp only [Value.okWide, hu, Cell.okWide, Cell.ok] at hv
      exact hv.2.2.2.1
    obtain ⟨b, off, sp⟩ := a
    simp only at this; subst this
    exact ⟨b, off, len, cap, rfl, h2, h3⟩

/-- The arguments read behind the call as they did. -/
theorem args_below (hl : laidOutB P = true) {W W' : World} (hb : Below W.heap.size W W') : ∀ {ts : List TypeId} {vs : List Value} {ds : List (DataW H)} {ps : List MemPlace}, (ts.all fun t => P.readableRec t && decide (t < P.types.size)) = true →
    DataW.TrodAll enc P W 0 (fun _ => true) true ts vs ds ps → (∀ x ∈ ps, x.block < W.heap.size) → DataW.TrodAll enc P W' 0 (fun b => decide (b < W.heap.size)) true ts vs ds ps
  | [], [], [], _, _, h, _ => h
  | [], [], _ :: _, _, _, h, _ => h.elim
  | [], _ :: _, _, _, _, h, _ => h.elim
  | _ :: _, [], _, _, _, h, _ => h.elim
  | _ :: _, _ :: _, [], _, _, h, _ => h.elim
  | t :: ts, v :: vs, d :: ds, ps, ha, h, hlt => by
    obtain ⟨p, q, h1, h2, e⟩ := h
    simp only [List.all_cons, Bool.and_eq_true, decide_eq_true_eq] at ha
    subst e
    exact ⟨p, q, Below.trod hl ha.1.1 ha.1.2 h1 hb (fun x hx => hlt x (List.mem_append_left _ hx)), args_below hl hb ha.2 h2 (fun x hx => hlt x (List.mem_append_right _ hx)), rfl⟩

theorem Keeps.below {w w' : World} (k : Keeps w w') : Below w.heap.size w w' := ⟨k.os, k.tape, k.output, k.size, k.old⟩

/-- A law's post: true, and its arguments as they were. -/
theorem law_post {f : Func} {s : ChangeSpec} (hl : laidOutB P = true) (hts : (f.params.toList.all fun t => P.readableRec t && decide (t < P.types.size)) = true) {tb : TypeId} (hr : f.resultTypes = #[tb]) (htb : P.underlying tb = some .bool)
    {W W' : World} {args : Array Value} {ds gs : List (DataW H)} {before : List MemPlace} (hvars : s.vars = []) (hfn : (s.fn H (ds ++ gs)).results = [.lit (.bool true)] ∧ (s.fn H (ds ++ gs)).args = ds ∧ (s.fn H (ds ++ gs)).vars = [])
    (hW : DataW.Whole enc P f.params.toList s.vars false W args.toList ds gs before) (hb : Below W.heap.size W W') : s.post enc P f false true false false W args (.bool true) W' := by
  have hW' := hW
  obtain ⟨p, q, hA, hV, rfl, _, _⟩ := hW
  rw [hvars] at hV
  obtain ⟨rfl, rfl⟩ := ChangeShapes.trodVars_none hV
  have hlt : ∀ x ∈ p, x.block < W.heap.size := fun x hx => hW'.lt x (by simp [hx])
  refine ⟨_, _, _, [], p, [], hW', ?_, ?_, ?_, hb.frame _, fun h => by cases h⟩
  · rw [hr, hfn.1]
    exact ChangeShapes.trodAll_mk1 (shut_bool htb _)
  · rw [hfn.2.1]
    exact args_below hl hb hts hA hlt
  · rw [hvars, hfn.2.2]; exact rfl
end
end Go.Vai
