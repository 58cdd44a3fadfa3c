/- Functions of the library that the model stands in for, as summaries of the interpreter. -/
import Derived.Test.YtopjbfgikglncaaGreatDoorVaiEnv
import Derived.Lib.BytesEntry
import Derived.Lib.MakeNoZero
namespace Go.Vai

def idxI (c : Nat) : List UInt8 → Nat → Int
  | [], _ => .negSucc 0
  | a :: l, k => bif Nat.beq a.toNat c then .ofNat k else idxI c l (k + 1)
def cntI (c : Nat) : List UInt8 → Nat → Nat
  | [], n => n
  | a :: l, n => bif Nat.beq a.toNat c then cntI c l (n + 1) else cntI c l n

theorem beq8 (a : UInt8) {c : Nat} (h : c < 256) : Nat.beq a.toNat c = (a == c.toUInt8) := by
  rw [Bool.eq_iff_iff, Nat.beq_eq, beq_iff_eq]
  have e : c.toUInt8.toNat = c := by simp; omega
  constructor
  · intro h1; apply UInt8.toNat_inj.1; omega
  · intro h1; rw [h1, e]
theorem idxI_eq {c : Nat} (h : c < 256) : ∀ (l : List UInt8) (k : Nat), idxI c l k = if Lib.indexByte l c.toUInt8 = -1 then -1 else Lib.indexByte l c.toUInt8 + k := by
  intro l
  induction l with
  | nil => intro k; simp [idxI, Lib.indexByte]
  | cons a l ih =>
    intro k
    simp only [idxI, Lib.indexByte, beq8 a h]
    by_cases hb : (a == c.toUInt8) = true
    · simp [hb]
    · have hb : (a == c.toUInt8) = false := by simpa using hb
      simp only [hb, cond_false, Bool.false_eq_true, if_false, ih]
      have := Lib.indexByte_ge l c.toUInt8
      by_cases h1 : Lib.indexByte l c.toUInt8 = -1
      · simp [h1]
      · have h2 : (Lib.indexByte l c.toUInt8 == -1) = false := by simpa using h1
        simp only [h1, h2, if_false, Bool.false_eq_true]
        rw [if_neg (by omega)]
        omega
theorem idxI_zero {c : Nat} (h : c < 256) (l : List UInt8) : idxI c l 0 = Lib.indexByte l c.toUInt8 := by
  rw [idxI_eq h]
  split
  · rename_i h; rw [h]
  · simp
theorem cntI_eq {c : Nat} (h : c < 256) : ∀ (l : List UInt8) (n : Nat), cntI c l n = n + Lib.countByte l c.toUInt8 := by
  intro l
  induction l with
  | nil => intro n; simp [cntI, Lib.countByte]
  | cons a l ih =>
    intro n
    simp only [cntI, beq8 a h, Lib.countByte, List.count_cons]
    cases hb : (a == c.toUInt8)
    · simp [ih, Lib.countByte]
    · simp only [cond_true, ih, Lib.countByte, if_true]; omega

/-- 1: IndexByteString, 2: CountString, 3: NoEscape, 4: MakeNoZero, 5: IndexByte. e: the bytes' type. -/
def extName : Nat → String
  | 1 => "internal/bytealg.IndexByteString"
  | 2 => "internal/bytealg.CountString"
  | 3 => "internal/abi.NoEscape"
  | 4 => "internal/bytealg.MakeNoZero"
  | 5 => "internal/bytealg.IndexByte"
  | _ => ""

noncomputable def extA (k e : Nat) (args : List AV) (H : AHeap) : Option (AV × AHeap) :=
  match k, args with
  | 1, [.str s, .int .u8 c] => match bndV (.int .u8 c) 255 with
    | some n => some (.int .i64 (idxI n s 0), H)
    | none => none
  | 2, [.str s, .int .u8 c] => match bndV (.int .u8 c) 255 with
    | some n => some (.int .i64 (.ofNat (cntI n s 0)), H)
    | none => none
  | 3, [x] => some (x, H)
  | 4, [.int .i64 n] => match bndV (.int .i64 n) 281474976710656 with
    | some n => some (.sl H.next 0 n none, H.new (.cells n .nil e (some 1) 0 false false))
    | none => none
  | 5, [.sl id off len cap, .int .u8 c] => match bndV (.int .u8 c) 255, (sliceCells H 1 len (.sl id off len cap)).bind bytesA with
    | some n, some s => some (.int .i64 (idxI n s 0), H)
    | _, _ => none
  | 5, [.nils, .int .u8 c] => match bndV (.int .u8 c) 255 with
    | some _ => some (.int .i64 (.negSucc 0), H)
    | none => none
  | _, _ => none

noncomputable def extAt : List (Nat × Nat × Nat) → Nat → Option (Nat × Nat)
  | [], _ => none
  | (f, k, e) :: r, g => bif Nat.beq f g then some (k, e) else extAt r g

def extOk1 (P : Program) (x : Nat × Nat × Nat) : Bool :=
  match P.funcs[x.1]? with
  | some fn => (fn.body.isNone && (decide (fn.name = extName x.2.1) && (Extern.findNext fn).isNone)) &&
      (bif Nat.beq x.2.1 4 then (match fn.resultTypes.toList with
        | [t] => (match P.underlying t with | some (.slice e) => Nat.beq e x.2.2 | _ => false)
        | _ => false) else true)
  | none => false
def extOk (P : Program) (l : List (Nat × Nat × Nat)) : Bool := l.all (extOk1 P)

theorem extAt_mem : ∀ {l : List (Nat × Nat × Nat)} {g : Nat} {r : Nat × Nat}, extAt l g = some r → (g, r) ∈ l := by
  intro l
  induction l with
  | nil => intro g r h; cases h
  | cons x l ih =>
    intro g r h
    obtain ⟨f, k, e⟩ := x
    simp only [extAt, Bool.cond_eq_ite, Nat.beq_eq] at h
    split at h
    · rename_i hf
      simp only [Option.some.injEq] at h; subst h; subst hf
      exact List.mem_cons_self
    · exact List.mem_cons_of_mem _ (ih h)

theorem find1 {fn : Func} (h : fn.name = "internal/bytealg.IndexByteString") : Extern.find fn = some Extern.BytealgIndexByte.indexByte := by
  have a : Extern.allGenericRows.lookup "internal/bytealg.IndexByteString" = none := by kernel_rfl
  have b : Extern.allTypedRows.lookup "internal/bytealg.IndexByteString" = none := by kernel_rfl
  have c : Extern.allRows.lookup "internal/bytealg.IndexByteString" = some Extern.BytealgIndexByte.indexByte := by kernel_rfl
  simp [Extern.find, h, a, b, c]
theorem find2 {fn : Func} (h : fn.name = "internal/bytealg.CountString") : Extern.find fn = some Extern.BytealgCount.count := by
  have a : Extern.allGenericRows.lookup "internal/bytealg.CountString" = none := by kernel_rfl
  have b : Extern.allTypedRows.lookup "internal/bytealg.CountString" = none := by kernel_rfl
  have c : Extern.allRows.lookup "internal/bytealg.CountString" = some Extern.BytealgCount.count := by kernel_rfl
  simp [Extern.find, h, a, b, c]
theorem find3 {fn : Func} (h : fn.name = "internal/abi.NoEscape") : Extern.find fn = some Extern.AbiNoEscape.same := by
  have a : Extern.allGenericRows.lookup "internal/abi.NoEscape" = none := by kernel_rfl
  have b : Extern.allTypedRows.lookup "internal/abi.NoEscape" = none := by kernel_rfl
  have c : Extern.allRows.lookup "internal/abi.NoEscape" = some Extern.AbiNoEscape.same := by kernel_rfl
  simp [Extern.find, h, a, b, c]
theorem find4 {fn : Func} (h : fn.name = "internal/bytealg.MakeNoZero") : Extern.find fn = some (Extern.BytealgMakeNoZero.makeNoZero fn.params fn.resultTypes) := by
  have a : Extern.allGenericRows.lookup "internal/bytealg.MakeNoZero" = none := by kernel_rfl
  have b : Extern.allTypedRows.lookup "internal/bytealg.MakeNoZero" = some Extern.BytealgMakeNoZero.makeNoZero := by kernel_rfl
  simp [Extern.find, h, a, b]
theorem find5 {fn : Func} (h : fn.name = "internal/bytealg.IndexByte") : Extern.find fn = some Extern.BytealgIndexByte.indexByte := by
  have a : Extern.allGenericRows.lookup "internal/bytealg.IndexByte" = none := by kernel_rfl
  have b : Extern.allTypedRows.lookup "internal/bytealg.IndexByte" = none := by kernel_rfl
  have c : Extern.allRows.lookup "internal/bytealg.IndexByte" = some Extern.BytealgIndexByte.indexByte := by kernel_rfl
  simp [Extern.find, h, a, b, c]

theorem bndV_some {k : IntKind} {i : Int} {top n : Nat} (h : bndV (.int k i) top = some n) : i = n ∧ n ≤ top := by
  unfold bndV at h
  simp only [Bool.cond_eq_ite, ilt_iff, decide_eq_true_eq, Nat.ble_eq] at h
  split at h
  · cases h
  · split at h
    · simp only [Option.some.injEq] at h; omega
    · cases h

theorem grown_drew2_alloc (w : World) (o : Obj) : w.grownBy (w.drew.drew.alloc o) none := by
  refine ⟨rfl, rfl, rfl, ?_, fun k hk _ => ?_⟩
  · show w.heap.size ≤ (w.heap.push o).size
    simp
  · show (w.heap.push o)[k]? = _
    simp [Array.getElem?_push, Nat.ne_of_lt hk]

theorem slice_bytes {M : List MEnt} {H : AHeap} {w : World} (hr : HRel M H w) {id off len : Nat} {cap : Option Nat} {cs : List AV} {s : List UInt8} {m : MEnt} (hm : M[id]? = some m) (h : sliceCells H 1 len (.sl id off len cap) = some cs) (hs : bytesA cs = some s) :
    ∃ ns : List Int, ns.length = len ∧ s = Lib.bytesOf ns ∧ ∀ i, i < len → w.cell? ⟨m.block, m.base + off + i, none⟩ = some (.int .u8 (ns.getD i 0)) := by
  simp only [sliceCells] at h
  split at h
  case h_2 => cases h
  rename_i n c e g fz ro mk hget
  rw [Nat.mul_one] at h
  obtain ⟨hlen, hget'⟩ := Tr.getAll_spec _ h
  obtain ⟨cur, e', lo, hi, g1, g2, g3, g4, g5, g6, g7⟩ := hr.blk hget hm
  have hrel : VRels M cs ((List.range len).map fun j => (cur[m.base + (off + j)]?).getD undef) := by
    refine VRels.of (by simp [hlen]) fun j a v ha hv => ?_
    have hj : j < len := by rw [← hlen]; exact (List.getElem?_eq_some_iff.1 ha).1
    obtain ⟨_, cv, h1, h2⟩ := g7 (off + j) a (by rw [hget' j hj]; exact ha)
    have : v = cv := by
      rw [List.getElem?_map, List.getElem?_range hj] at hv
      simp only [Option.map_some, h1, Option.getD_some, Option.some.injEq] at hv
      exact hv.symm
    rw [this]; exact h2
  obtain ⟨ns, e1, e2⟩ := bytesA_rel hs hrel
  have hnl : ns.length = len := by
    have := congrArg List.length e1
    simpa using this.symm
  refine ⟨ns, hnl, e2, fun i hi => ?_⟩
  have h1 : (List.map (Value.int .u8) ns)[i]? = some ((cur[m.base + (off + i)]?).getD undef) := by
    rw [← e1, List.getElem?_map, List.getElem?_range hi]; rfl
  obtain ⟨x, hx⟩ : ∃ x, ns[i]? = some x := ⟨ns[i]'(by omega), List.getElem?_eq_getElem _⟩
  rw [List.getElem?_map, hx] at h1
  simp only [Option.map_some, Option.some.injEq] at h1
  obtain ⟨_, cv, h2, _⟩ := g7 (off + i) (cs[i]'(by omega)) (by rw [hget' i hi]; exact List.getElem?_eq_getElem _)
  rw [h2, Option.getD_some] at h1
  simp only [World.cell?, g1]
  rw [show m.base + off + i = m.base + (off + i) by omega]
  simp [h2, ← h1, hx, List.getD_eq_getElem?_getD]

theorem ext_sound {P : Program} {l : List (Nat × Nat × Nat)} (hl : extOk P l = true) {f k e : Nat} (hf : extAt l f = some (k, e)) {args : List AV} {H : AHeap} {v : AV} {H' : AHeap} {M : List MEnt} {w : World} {cargs : List Value}
    (h : extA k e args H = some (v, H')) (hr : HRel M H w) (ha : VRels M args cargs) : CallsA P f cargs M H w (.ret v H') := by
  have hm := List.all_eq_true.1 hl _ (extAt_mem hf)
  unfold extOk1 at hm
  split at hm
  case h_2 => cases hm
  rename_i fn hfn
  simp only [Bool.and_eq_true, decide_eq_true_eq] at hm
  obtain ⟨⟨hb, hn, hx⟩, ht⟩ := hm
  have hx' : Extern.findNext fn = none := by simpa using hx
  have nn : (fn.name == "runtime.NumGoroutine") = false := by
    rw [hn]
    have : k ≤ 5 := by
      unfold extA at h
      split at h <;> first | omega | cases h
    match k, this with
    | 0, _ | 1, _ | 2, _ | 3, _ | 4, _ | 5, _ => simp [extName]
  have go : ∀ (en : Array Value → Sem Value) (cv : Value) (w' : World) (M' : List MEnt), Extern.find fn = some en → (en cargs.toArray).run P w = .ok cv w' → Ext M H w M' H' w' → HRel M' H' w' → VRel M' v cv → CallsA P f cargs M H w (.ret v H') := by
    intro en cv w' M' hen hrun x1 x2 x3
    refine .inl ⟨cv, w', ?_, v, H', M', rfl, x1, x2, x3⟩
    rw [run_callFunc_extern hfn nn hb hx' hen, hrun]
    rfl
  unfold extA at h
  split at h
  · rename_i s c
    split at h
    case h_2 => cases h
    rename_i n hbn
    obtain ⟨rfl, hn5⟩ := bndV_some hbn
    simp only [Option.some.injEq, Prod.mk.injEq] at h
    obtain ⟨rfl, rfl⟩ := h
    match cargs, ha with
    | [c1, c2], ⟨h1, h2, _⟩ =>
      simp only [VRel] at h1 h2
      subst h1; subst h2
      refine go _ _ w M (find1 hn) (Lib.run_indexByteString ⟨⟨s⟩⟩ _ w) (Ext.refl _ _ _) hr ?_
      simp only [VRel, Int.toNat_natCast]
      rw [idxI_zero (by omega)]
  · rename_i s c
    split at h
    case h_2 => cases h
    rename_i n hbn
    obtain ⟨rfl, hn5⟩ := bndV_some hbn
    simp only [Option.some.injEq, Prod.mk.injEq] at h
    obtain ⟨rfl, rfl⟩ := h
    match cargs, ha with
    | [c1, c2], ⟨h1, h2, _⟩ =>
      simp only [VRel] at h1 h2
      subst h1; subst h2
      refine go _ _ w M (find2 hn) (Lib.run_countString ⟨⟨s⟩⟩ _ w) (Ext.refl _ _ _) hr ?_
      simp only [VRel, Int.toNat_natCast]
      rw [cntI_eq (by omega), Nat.zero_add]
      rfl
  · rename_i x
    simp only [Option.some.injEq, Prod.mk.injEq] at h
    obtain ⟨rfl, rfl⟩ := h
    match cargs, ha with
    | [c1], ⟨h1, _⟩ => exact go _ c1 w M (find3 hn) rfl (Ext.refl _ _ _) hr h1
  · rename_i n
    split at h
    case h_2 => cases h
    rename_i m hbn
    obtain ⟨rfl, hn5⟩ := bndV_some hbn
    simp only [Option.some.injEq, Prod.mk.injEq] at h
    obtain ⟨rfl, rfl⟩ := h
    match cargs, ha with
    | [c1], ⟨h1, _⟩ =>
      simp only [VRel] at h1
      subst h1
      simp only [show Nat.beq 4 4 = true from rfl, cond_true] at ht
      split at ht
      case h_2 => cases ht
      rename_i t hrt
      have hrt : fn.resultTypes = #[t] := by apply Array.ext'; rw [hrt]
      split at ht
      case h_2 => cases ht
      rename_i e' hu
      simp only [Nat.beq_eq] at ht; subst ht
      obtain ⟨cs, hrun, hsz, _⟩ := Lib.run_makeNoZero w fn.params t e' hu m hn5
      obtain ⟨n1, n2⟩ := hr.new (grown_drew2_alloc w (.cells cs e')) (.cells m .nil e' (some 1) 0 false false) ⟨w.heap.size, 0, cs.size, 1⟩ (Nat.le_refl _)
        ⟨cs, e', 0, 0, by show (w.heap.push _)[w.heap.size]? = _; simp, fun _ => ⟨rfl, rfl⟩, by simpa using hsz, fun gs eg => ⟨by cases eg; rfl, rfl, rfl⟩, fun _ i a b c => by omega, fun _ _ => ⟨Nat.zero_le _, Nat.le_refl _⟩, fun i v hv => by simp [Tr.get_nil] at hv⟩
      refine go _ _ _ _ (find4 hn) (by rw [hrt]; exact hrun) n2 n1 ⟨_, cs.size, newAt hr _, rfl, (fun _ e => by cases e), fun _ => ⟨hsz, by simp, Nat.one_pos⟩⟩
  · rename_i id off len cap c
    split at h
    case h_2 => cases h
    rename_i n s hbn hsc
    obtain ⟨rfl, hn5⟩ := bndV_some hbn
    simp only [Option.some.injEq, Prod.mk.injEq] at h
    obtain ⟨rfl, rfl⟩ := h
    match cargs, ha with
    | [c1, c2], ⟨h1, h2, _⟩ =>
      simp only [VRel] at h2
      subst h2
      obtain ⟨m, cc, hmm, rfl, _, _⟩ := h1
      cases hcs : sliceCells H 1 len (.sl id off len cap) with
      | none => rw [hcs] at hsc; cases hsc
      | some cs =>
        rw [hcs] at hsc
        simp only [Option.bind_some] at hsc
        obtain ⟨ns, q1, q2, q3⟩ := slice_bytes hr hmm hcs hsc
        subst q2
        refine go _ _ w M (find5 hn) (Lib.run_indexByteSlice w m.block (m.base + off) len cc ns q1 q3 _) (Ext.refl _ _ _) hr ?_
        simp only [VRel, Int.toNat_natCast]
        rw [idxI_zero (by omega)]
  · rename_i c
    split at h
    case h_2 => cases h
    rename_i n hbn
    obtain ⟨rfl, hn5⟩ := bndV_some hbn
    simp only [Option.some.injEq, Prod.mk.injEq] at h
    obtain ⟨rfl, rfl⟩ := h
    match cargs, ha with
    | [c1, c2], ⟨h1, h2, _⟩ =>
      simp only [VRel] at h1 h2
      subst h1; subst h2
      refine go _ (.int .i64 (-1)) w M (find5 hn) ?_ (Ext.refl _ _ _) hr (by simp [VRel])
      change Sem.run P (do
        let b ← Extern.Bytes.bytesOf (.slice none 0 0)
        let c' ← Extern.Bytes.asByte (.int .u8 (n : Int))
        match (List.range b.size).find? fun i => b[i]! == c' with
        | some i => pure (goInt i)
        | none => pure (goInt (-1))) w = _
      simp [Extern.Bytes.bytesOf, Extern.Bytes.asByte, goInt]
  · cases h
end Go.Vai
