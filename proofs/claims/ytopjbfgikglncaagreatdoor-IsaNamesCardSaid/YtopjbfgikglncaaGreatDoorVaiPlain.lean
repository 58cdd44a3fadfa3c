/- Calls from plain values to plain values as summaries; an argument's whole row. -/
import Derived.Test.YtopjbfgikglncaaGreatDoorVaiJoin
import Derived.Test.YtopjbfgikglncaaGreatDoorVaiStart
import Derived.Test.YtopjbfgikglncaaGreatDoorVaiLaid
namespace Go.Vai
noncomputable section
mutual
theorem rnV_nil (b : Nat) : ∀ v : AV, rnV b [] v = rnV 0 [] v
  | .ptr _ _ => rfl
  | .sl _ _ _ _ => rfl
  | .yld _ => rfl
  | .mapv _ => rfl
  | .nilm => rfl
  | .opq => rfl
  | .fn f x y => by simp only [rnV, rnVs_nil b x, rnVs_nil b y]
  | .iface t x => by simp only [rnV, rnV_nil b x]
  | .agg l => by simp only [rnV, rnVs_nil b l]
  | .tup l => by simp only [rnV, rnVs_nil b l]
  | .bool _ => rfl
  | .int _ _ => rfl
  | .str _ => rfl
  | .nilp => rfl
  | .nils => rfl
  | .sl0 => rfl
  | .nilf => rfl
  | .nili => rfl
theorem rnVs_nil (b : Nat) : ∀ v : List AV, rnVs b [] v = rnVs 0 [] v
  | [] => rfl
  | v :: vs => by simp only [rnVs, rnV_nil b v, rnVs_nil b vs]
end
/-- Plain values, structs of plain fields too. -/
def eqPl2 : AV → AV → Bool
  | .agg a, .agg b => eqPlains a b
  | x, y => eqPlain x y
theorem eqPl2_iff {x y : AV} (h : eqPl2 x y = true) : x = y := by
  unfold eqPl2 at h
  split at h
  · rw [eqPlains_iff h]
  · exact eqPlain_iff h
theorem eqPlain_plain {x y : AV} (h : eqPlain x y = true) : Plain x := by
  unfold eqPlain at h
  split at h <;> first | (exact fun _ _ => rfl) | cases h
theorem eqPlains_plain : ∀ {l m : List AV}, eqPlains l m = true → ∀ b keep, rnVs b keep l = some l
  | [], _, _, _, _ => rfl
  | _ :: _, [], h, _, _ => by simp [eqPlains] at h
  | a :: xs, b :: ys, h, n, keep => by
    simp only [eqPlains, Bool.and_eq_true] at h
    simp only [rnVs, eqPlain_plain h.1 n keep, eqPlains_plain h.2 n keep]
theorem plain_agg {l m : List AV} (h : eqPlains l m = true) : Plain (.agg l) := fun b keep => by simp only [rnV, eqPlains_plain h b keep]
/-- A summary of calls that leave memory as it is. -/
def plainSm (F : Nat → List AV → Option AV) : Sm := fun f args H => Option.rec (motive := fun _ => Option (AV × AHeap)) none (fun v => some (v, H)) (F f args)
section
variable {P : Program} {gl : List (Nat × List AV)}
theorem plain_ok {F : Nat → List AV → Option AV}
    (hF : ∀ f args v, F f args = some v → ∃ (E : Env) (n : Nat), (∀ w, GlobOk gl w → EnvOk E P (Kept gl w)) ∧ (gl.all fun x => Nat.blt x.1 E.ng) = true ∧ (E.fn f).isSome = true ∧ (∀ a ∈ args, Plain a) ∧ ∃ o, callP E n (.call f args (gHeap E.ng gl)) o jK = some v) : SmOk P gl (plainSm F) := by
  intro f args H v H' M w cargs hs hw hr ha
  unfold plainSm at hs
  cases hF' : F f args with
  | none => rw [hF'] at hs; cases hs
  | some u =>
    rw [hF'] at hs
    have hs : some (u, H) = some (v, H') := hs
    simp only [Option.some.injEq, Prod.mk.injEq] at hs
    obtain ⟨rfl, rfl⟩ := hs
    obtain ⟨E, n, hE, hgl, h1, h2, o, h3⟩ := hF f args _ hF'
    obtain ⟨x, o', e, hk⟩ := callP_ok E n _ _ _ _ h3
    cases x with
    | code a b c => cases hk
    | dcall a => cases hk
    | call c =>
      cases c with
      | pan v H => cases hk
      | ret v1 H1 =>
        have hk : rnV 0 [] v1 = some u := hk
        refine BodyTo.calls (os := []) (body_closed hE hgl h1 (VRels.anyPlain h2 ha _) e) hw hr ?_
        rintro v2 H2 ⟨rfl, rfl⟩
        exact ⟨[], List.nodup_nil, rfl, by rw [rnV_nil]; exact hk, fun j x hx => by simp at hx⟩
end

/-- All the cells of a row. -/
theorem get_setB {α : Type} (t : Tr α) {i : Nat} (j : Nat) (v : α) (h : i < 2 ^ 47) : (t.set i v).get j = if j = i then some v else t.get j := Tr.getF_eq 48 t i j (some v) (by omega)
theorem get_putAllB {α : Type} : ∀ (vs : List α) (t : Tr α) (k j : Nat), k + vs.length ≤ 2 ^ 47 → (t.putAll k vs).get j = if k ≤ j ∧ j < k + vs.length then vs[j - k]? else t.get j
  | [], t, k, j, _ => by rw [if_neg (by simp only [List.length_nil]; omega)]; rfl
  | v :: vs, t, k, j, h => by
    simp only [List.length_cons] at h ⊢
    show ((t.set k v).putAll (k + 1) vs).get j = _
    rw [get_putAllB vs _ _ _ (by omega), get_setB _ _ _ (by omega)]
    by_cases h1 : j = k
    · subst h1
      rw [if_neg (by omega), if_pos rfl, if_pos (by omega), Nat.sub_self]; rfl
    · rw [if_neg h1]
      by_cases h2 : k + 1 ≤ j ∧ j < k + 1 + vs.length
      · rw [if_pos h2, if_pos (by omega), show j - k = (j - (k + 1)) + 1 by omega, List.getElem?_cons_succ]
      · rw [if_neg h2, if_neg (by omega)]
theorem getAll_putAll {vs : List AV} (h : vs.length < 2 ^ 47) : ∀ (n k : Nat), k + n ≤ vs.length → (Tr.nil.putAll 0 vs).getAll k n = some ((vs.drop k).take n)
  | 0, k, _ => by simp [Tr.getAll_zero]
  | n + 1, k, hk => by
    have e : (Tr.nil.putAll 0 vs).get k = some (vs[k]'(by omega)) := by
      rw [get_putAllB _ _ _ _ (by omega), if_pos (by omega), Nat.sub_zero, List.getElem?_eq_getElem (by omega)]
    rw [Tr.getAll_succ, e]
    simp only []
    rw [getAll_putAll h n (k + 1) (by omega)]
    simp only [Option.some.injEq]
    rw [List.drop_eq_getElem_cons (by omega : k < vs.length), List.take_succ_cons]
theorem hasA_putAll {vs : List AV} (h : vs.length < 2 ^ 47) : hasA (Tr.nil.putAll 0 vs) 0 vs.length = true := by
  unfold hasA
  rw [getAll_putAll h _ _ (by omega)]; rfl
theorem getA_putAll {vs : List AV} (h : vs.length < 2 ^ 47) : getA (Tr.nil.putAll 0 vs) 0 vs.length = vs := by
  unfold getA
  rw [getAll_putAll h _ _ (by omega)]; simp

section
variable {H : Type} {enc : TypeId × Value → H} {P : Program} {w : World} {base : Nat} {spare : Nat → Bool} {held : Bool}
/-- A variable of an interface type: one cell. -/
theorem iface_one {n : Nat} {t : TypeId} {cs : List Value} {x : DataW H × List MemPlace} {ms : Array (String × TypeId)} (hu : P.underlying t = some (.interface ms)) (h : DataW.trod enc P w base spare held n t cs = some x) : VRels [] [.opq] cs := by
  cases n with
  | zero => simp [DataW.trod] at h
  | succ n =>
    match cs with
    | [] => simp [DataW.trod, hu] at h
    | [v] =>
      cases v with
      | nilIface => exact ⟨⟨fun _ e => (by cases e), fun _ e => (by cases e)⟩, trivial⟩
      | iface u y => exact ⟨⟨fun _ e => (by cases e), fun _ e => (by cases e)⟩, trivial⟩
      | _ => simp [DataW.trod, hu] at h
    | _ :: _ :: _ => simp [DataW.trod, hu] at h
/-- A listed variable of an interface type: there is a value. -/
theorem laid_opq {laid : List (String × DataW Unit)} (h : laidMetH P laid w) (hp : (laid.all fun x => x.2.handleName?.isNone) = true) {name : String} {d : DataW Unit} (hm : (name, d) ∈ laid) {g t : Nat} (hg : P.globalNamed name = some g) (ht : (P.globals[g]?).map (·.type) = some t)
    {ms : Array (String × TypeId)} (hu : P.underlying t = some (.interface ms)) : ∃ cs e lo hi, w.heap[g]? = some (.cells cs e (lo, hi)) ∧ VRels [] [.opq] cs.toList := by
  rw [MakeChecks.laidMetH_plain _ _ _ hp] at h
  obtain ⟨g', t', cs, fuel, p, h1, h2, h3, h4⟩ := Lib.laidMet.reads h hm
  rw [hg] at h1; cases h1
  rw [ht] at h2; cases h2
  have := iface_one hu h4
  unfold World.var? at h3
  rw [hg] at h3
  simp only [Option.bind_some] at h3
  cases hh : w.heap[g]? with
  | none => rw [hh] at h3; cases h3
  | some o =>
    rw [hh] at h3
    cases o with
    | cells cur e fz =>
      simp only [Option.some.injEq] at h3
      subst h3
      obtain ⟨lo, hi⟩ := fz
      exact ⟨_, e, lo, hi, rfl, this⟩
    | _ => simp at h3
end
section
open Go.RowKit
variable {H : Type} {enc : TypeId × Value → H} {P : Program} {w : World} {base : Nat} {spare : Nat → Bool} {held : Bool}
/-- A slice of plain data that is handed in: nil, without elements, or a row of which all cells are known. -/
theorem arg_rowF {t e : TypeId} {ks : List CK} {v : Value} {d : DataW H} {ps : List MemPlace} {dd : Nat} (hu : P.underlying t = some (.slice e)) (hk : flatT P dd e = some ks) (hc : P.cellsOf e = ks.length) (hpos : 0 < ks.length)
    (hv : Value.okWide P w .any 0 t v) (hd : DataW.Trod enc P w base spare held t v d ps) : v = .slice none 0 0 ∨ (∃ a cap, v = .slice (some a) 0 cap) ∨
    ∃ (len cap : Nat) (vs : List AV) (m : MEnt), 0 < len ∧ (∃ a, v = .slice (some a) len cap) ∧ len ≤ cap ∧ ShapesN ks len vs ∧ ORel [] m w (.cells (len * ks.length) (Tr.nil.putAll 0 vs) 0 none 0 true false) ∧ ∀ M (id : Nat), M[id]? = some m → VRel M (.sl id 0 len (some cap)) v := by
  rcases open_row hu hk hc hpos hv hd with rfl | ⟨a, cap, rfl⟩ | ⟨b, off, len, cap, vs, rfl, hl, hlc, _, hs, cur, e', lo, hi, hh, hsz, hr⟩
  · exact .inl rfl
  · exact .inr (.inl ⟨a, cap, rfl⟩)
  · refine .inr (.inr ⟨len, cap, vs, ⟨b, off, 0, 0⟩, hl, ⟨_, rfl⟩, hlc, hs, ⟨cur, e', lo, hi, hh, (fun e => by cases e), hsz, (fun gs e => by cases e), (fun e => by cases e), (fun e => by cases e), fun i v h => ?_⟩, fun M id hm => ⟨⟨b, off, 0, 0⟩, cap, hm, by simp, (fun d e => by cases e; rfl), fun e => by cases e⟩⟩)
    have hv : vs[i]? = some v := by
      rcases Tr.get_putAll _ h with ⟨q, rfl, hq⟩ | ⟨_, hu⟩
      · simpa using hq
      · simp [Tr.get_nil] at hu
    have hi : i < vs.length := (List.getElem?_eq_some_iff.1 hv).1
    rw [hs.1] at hi
    obtain ⟨cv, c1, c2⟩ := hr.get i v hv
    refine ⟨hi, cv, ?_, c2⟩
    rw [List.getElem?_take, if_pos hi, List.getElem?_drop] at c1
    simpa using c1
/-- How long a slice is that is handed in: its bytes have an address. -/
theorem slice_weight {t e : TypeId} {v : Value} {d : DataW H} {ps : List MemPlace} (hu : P.underlying t = some (.slice e)) (hd : DataW.Trod enc P w base spare held t v d ps) (hw : (d.weights P t).all (· ≤ reachBytes) = true) {a : Addr} {len cap : Nat} (hv : v = .slice (some a) len cap) : len * P.bytesOf e ≤ reachBytes := by
  obtain ⟨n, hn⟩ := hd
  subst hv
  rcases DataW.trod_slice hu hn with ⟨h1, _⟩ | ⟨a', len', cap', elems, rest, m, _, h1, h2, _, _, _, h5, _⟩
  · simp [Value.cells] at h1
  · simp only [Value.cells, List.cons.injEq, and_true, Value.slice.injEq] at h1
    obtain ⟨_, rfl, _⟩ := h1
    have hd : d = .slice (elems.map (·.1)) (rest.map (·.1)) := congrArg Prod.fst h2
    subst hd
    simp only [DataW.weights, hu, List.all_cons, Bool.and_eq_true, decide_eq_true_eq, List.length_map, h5] at hw
    exact Nat.le_trans (Nat.mul_le_mul_right _ (by omega)) hw.1
end
end
end Go.Vai
