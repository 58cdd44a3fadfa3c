/- strconv's numerals and strings.Join, by the shelf's contracts. -/
import Derived.Test.YtlclahpapabkdaaGreatDoorVaiH
import Derived.Test.YtlclahpapabkdaaGreatDoorVaiG
import Derived.Shelf.Strconv.Itoa4
import Derived.Shelf.Strings.OnBuilder
import Derived.Lib.AppendIntMem
section
namespace Go.Vai
open Go.RowKit
noncomputable section
theorem keeps_below {w w' : World} (h : Below w.heap.size w w') : Keeps w w' := ⟨h.size, h.os, h.tape, h.output, h.block⟩
def i64In (n : Int) : Bool := !(ilt n (.negSucc 9223372036854775807)) && !(ilt (.ofNat 9223372036854775807) n)
theorem i64In_iff {n : Int} (h : i64In n = true) : -9223372036854775808 ≤ n ∧ n ≤ 9223372036854775807 := by
  unfold i64In at h
  simp only [ilt_iff, Bool.and_eq_true, Bool.not_eq_true', decide_eq_false_iff_not] at h
  exact ⟨Int.not_lt.1 h.1, Int.not_lt.1 h.2⟩
theorem tab_of {P : Program} {gl : List (Nat × List AV)} {g : Nat} {av : List AV} {name : String} {zs : List Int} (hm : (g, av) ∈ gl) (hz : av = zs.map (AV.int .u64)) (hn : P.globalNamed name = some g) {w : World} (hw : GlobOk gl w) : Lib.TabIs P w name .u64 zs := by
  obtain ⟨cs, e, lo, hi, h1, h2⟩ := hw g av hm
  subst hz
  unfold Lib.TabIs World.var?
  rw [hn]
  simp only [Option.bind_some, h1, Option.some.injEq]
  have key : ∀ (zs : List Int) (l : List Value), VRels [] (zs.map (AV.int .u64)) l → l = zs.map fun z => Value.int .u64 z := by
    intro zs
    induction zs with
    | nil => intro l h; cases l with | nil => rfl | cons a l => exact h.elim
    | cons z zs ih =>
      intro l h
      cases l with
      | nil => exact h.elim
      | cons a l =>
        obtain ⟨h1, h2⟩ := h
        simp only [VRel] at h1
        rw [h1, ih l h2]; rfl
  rw [← key zs _ h2]
def itoaSm (g : Nat) : Sm := fun f args H => match args with
  | [.int .i64 n] => bif Nat.beq f g && i64In n then some (.str (Lib.itoa n), H) else none
  | _ => none
def fmtSm (g : Nat) : Sm := fun f args H => match args with
  | [.int .i64 n, .int .i64 b] => bif Nat.beq f g && (ieq b (.ofNat 10) && i64In n) then some (.str (Lib.itoa n), H) else none
  | _ => none
section
variable {P : Program} {ρ : Shelf.Ren} {gl : List (Nat × List AV)}
theorem itoa_ok (L : Go.Proofs.LaysM.n171 P ρ) (ht : ∀ w, GlobOk gl w → Lib.TabIs P w "internal/strconv.uint64pow10" .u64 Lib.pow10Tab) : SmOk P gl (itoaSm (ρ.f 171)) := by
  intro g args H v H' M w cargs hs hw hr ha
  unfold itoaSm at hs
  split at hs
  case h_2 => cases hs
  rename_i n
  cases hb : Nat.beq g (ρ.f 171) && i64In n with
  | false => rw [hb] at hs; cases hs
  | true =>
    rw [hb] at hs
    simp only [cond_true, Option.some.injEq, Prod.mk.injEq] at hs
    obtain ⟨rfl, rfl⟩ := hs
    rw [Bool.and_eq_true, Nat.beq_eq] at hb
    obtain ⟨rfl, hn⟩ := hb
    obtain ⟨n0, n1⟩ := i64In_iff hn
    match cargs, ha with
    | [x], ⟨h1, _⟩ =>
      simp only [VRel] at h1
      subst h1
      have e : ∀ args w, (callFunc (ρ.f 171) args).run P w = .ok (.enter (ρ.f 171) args) w := Go.Proofs.enters_of L.f171 (by kernel_rfl) rfl
      refine .inr ⟨e _ _, callsIn_wide.2 ((Go.Proofs.Any.strconv_Itoa L n n0 n1 w (ht w hw)).mono fun e w' he => ?_)⟩
      obtain ⟨rfl, k, os, rfl⟩ := he
      obtain ⟨x1, x2⟩ := (keeps_below (Lib.below_grow w.heap.size w (Nat.le_refl _) k os)).ext hr
      exact ⟨_, _, M, rfl, x1, x2, by simp [VRel]⟩
theorem fmt_ok (L : Go.Proofs.LaysM.n173 P ρ) (ht : ∀ w, GlobOk gl w → Lib.TabIs P w "internal/strconv.uint64pow10" .u64 Lib.pow10Tab) : SmOk P gl (fmtSm (ρ.f 173)) := by
  intro g args H v H' M w cargs hs hw hr ha
  unfold fmtSm at hs
  split at hs
  case h_2 => cases hs
  rename_i n b
  cases hb : Nat.beq g (ρ.f 173) && (ieq b (.ofNat 10) && i64In n) with
  | false => rw [hb] at hs; cases hs
  | true =>
    rw [hb] at hs
    simp only [cond_true, Option.some.injEq, Prod.mk.injEq] at hs
    obtain ⟨rfl, rfl⟩ := hs
    rw [Bool.and_eq_true, Bool.and_eq_true, Nat.beq_eq, ieq_iff, decide_eq_true_iff] at hb
    obtain ⟨rfl, rfl, hn⟩ := hb
    obtain ⟨n0, n1⟩ := i64In_iff hn
    match cargs, ha with
    | [x, y], ⟨h1, h2, _⟩ =>
      simp only [VRel] at h1 h2
      subst h1; subst h2
      have e : ∀ args w, (callFunc (ρ.f 173) args).run P w = .ok (.enter (ρ.f 173) args) w := Go.Proofs.enters_of L.f173 (by kernel_rfl) rfl
      refine .inr ⟨e _ _, callsIn_wide.2 ((Go.Proofs.Any.strconv_FormatInt_10 L n n0 n1 w (ht w hw)).mono fun e w' he => ?_)⟩
      obtain ⟨rfl, k, os, rfl⟩ := he
      obtain ⟨x1, x2⟩ := (keeps_below (Lib.below_grow w.heap.size w (Nat.le_refl _) k os)).ext hr
      exact ⟨_, _, M, rfl, x1, x2, by simp [VRel]⟩
end
def strsA : List AV → Option (List (List UInt8))
  | [] => some []
  | .str s :: l => match strsA l with
    | some r => some (s :: r)
    | none => none
  | _ :: _ => none
theorem strsA_eq : ∀ {l : List AV} {r : List (List UInt8)}, strsA l = some r → l = r.map .str
  | [], r, h => by
    simp only [strsA, Option.some.injEq] at h
    subst h; rfl
  | a :: l, r, h => by
    unfold strsA at h
    split at h
    · rename_i e; cases e
    · rename_i s t e
      cases e
      split at h
      · rename_i q hq
        simp only [Option.some.injEq] at h
        subst h
        rw [strsA_eq hq]; rfl
      · cases h
    · cases h
def shortL (xs : List (List UInt8)) : Bool := xs.all fun x => Nat.ble x.length 1000
def joinV (xs : List (List UInt8)) (sep : List UInt8) : List UInt8 := Lib.join xs sep
def joinSmS (g : Nat) : Sm := fun f args H => match args with
  | [.sl id off len none, .str sep] => bif Nat.beq f g && (Nat.ble len 1000 && Nat.ble sep.length 1000) then (match (sliceCells H 1 len (.sl id off len none)).bind strsA with
    | some xs => bif shortL xs then some (.str (joinV xs sep), H) else none
    | none => none) else none
  | _ => none
theorem join_len (sep : List UInt8) (hs : sep.length ≤ 1000) : ∀ xs : List (List UInt8), (∀ x ∈ xs, x.length ≤ 1000) → (Lib.join xs sep).length ≤ xs.length * 2000
  | [], _ => by simp [Lib.join_nil]
  | x :: r, h => by
    rw [Lib.join_cons]
    have h1 := h x List.mem_cons_self
    have key : ∀ r : List (List UInt8), (∀ x ∈ r, x.length ≤ 1000) → (Lib.joinTail sep r).length ≤ r.length * 2000 := by
      intro r
      induction r with
      | nil => intro _; simp [Lib.joinTail]
      | cons y r ih =>
        intro h
        have a := h y List.mem_cons_self
        have b := ih fun x hx => h x (List.mem_cons_of_mem _ hx)
        simp only [Lib.joinTail, List.map_cons, List.flatten_cons, List.length_append, List.length_cons] at b ⊢
        omega
    have := key r fun x hx => h x (List.mem_cons_of_mem _ hx)
    simp only [List.length_append, List.length_cons]
    omega
theorem map_id2 : ∀ xs : List (List UInt8), (xs.map fun x => (⟨x.toArray⟩ : ByteArray)).map (fun b => b.data.toList) = xs
  | [] => rfl
  | x :: xs => by rw [List.map_cons, List.map_cons, map_id2 xs]
theorem slice_strs {M : List MEnt} {H : AHeap} {w : World} (hr : HRel M H w) {id off len : Nat} {cap : Option Nat} {cs : List AV} {xs : List (List UInt8)} {m : MEnt} (hm : M[id]? = some m) (h : sliceCells H 1 len (.sl id off len cap) = some cs) (hs : strsA cs = some xs) :
    xs.length = len ∧ m.block < w.heap.size ∧ ∀ (j : Nat) x, xs[j]? = some x → w.cell? ⟨m.block, m.base + off + j, none⟩ = some (.string ⟨x.toArray⟩) := by
  simp only [sliceCells] at h
  split at h
  case h_2 => cases h
  rename_i n c e g fz ro mk hget
  rw [Nat.mul_one] at h
  obtain ⟨hlen, hget'⟩ := Tr.getAll_spec _ h
  obtain ⟨cur, e', lo, hi, g1, g2, g3, g4, g5, g6, g7⟩ := hr.blk hget hm
  have hx := strsA_eq hs
  subst hx
  rw [List.length_map] at hlen
  refine ⟨hlen, (Array.getElem?_eq_some_iff.1 g1).1, fun j x hj => ?_⟩
  have hjl : j < len := by rw [← hlen]; exact (List.getElem?_eq_some_iff.1 hj).1
  obtain ⟨_, cv, h1, h2⟩ := g7 (off + j) (.str x) (by rw [hget' j hjl, List.getElem?_map, hj]; rfl)
  simp only [VRel] at h2
  subst h2
  simp only [World.cell?, g1]
  rw [Nat.add_assoc]
  simp [h1]
section
variable {P : Program} {ρ : Shelf.Ren} {gl : List (Nat × List AV)}
theorem joins_ok (L : Go.Proofs.Lays.n156 P ρ) (X : Go.Proofs.Builder.Extra P ρ) : SmOk P gl (joinSmS (ρ.f 156)) := by
  intro g args H v H' M w cargs hs hw hr ha
  unfold joinSmS at hs
  split at hs
  case h_2 => cases hs
  rename_i id off len sep
  cases hb : Nat.beq g (ρ.f 156) && (Nat.ble len 1000 && Nat.ble sep.length 1000) with
  | false => rw [hb] at hs; cases hs
  | true =>
    rw [hb] at hs
    simp only [cond_true] at hs
    rw [Bool.and_eq_true, Bool.and_eq_true, Nat.beq_eq, Nat.ble_eq, Nat.ble_eq] at hb
    obtain ⟨rfl, hl, hsep⟩ := hb
    split at hs
    case h_2 => cases hs
    rename_i xs hx
    cases hsh : shortL xs with
    | false => rw [hsh] at hs; cases hs
    | true =>
      rw [hsh] at hs
      simp only [cond_true, Option.some.injEq, Prod.mk.injEq] at hs
      obtain ⟨rfl, rfl⟩ := hs
      obtain ⟨cs, hc, hstr⟩ := Option.bind_eq_some_iff.1 hx
      match cargs, ha with
      | [x, y], ⟨h1, h2, _⟩ =>
        simp only [VRel] at h2
        subst h2
        obtain ⟨m, cc, hmm, rfl, _, hcap⟩ := h1
        obtain ⟨q1, q2, q3⟩ := slice_strs hr hmm hc hstr
        have hcc := (hcap rfl).1
        have hshort : ∀ x ∈ xs, x.length ≤ 1000 := fun x hx => by
          have := List.all_eq_true.1 hsh x hx
          simpa using this
        have hj := join_len sep hsep xs hshort
        have e : ∀ args w, (callFunc (ρ.f 156) args).run P w = .ok (.enter (ρ.f 156) args) w := Go.Proofs.enters_of L.f156 (by kernel_rfl) rfl
        have key := Go.Proofs.Any.strings_Join L X m.block (m.base + off) cc (xs.map fun x => ⟨x.toArray⟩) ⟨sep.toArray⟩ w
          (fun j x hj => by
            rw [List.getElem?_map] at hj
            obtain ⟨z, hz, rfl⟩ := Option.map_eq_some_iff.1 hj
            exact q3 j z hz) q2 (by rw [List.length_map]; omega) (by rw [List.length_map]; omega)
          (by rw [map_id2]; show (Lib.join xs sep.toArray.toList).length ≤ _; rw [List.toList_toArray]; omega)
        rw [map_id2, List.length_map, q1] at key
        refine .inr ⟨e _ _, callsIn_wide.2 (key.mono fun e w' he => ?_)⟩
        obtain ⟨rfl, hb⟩ := he
        obtain ⟨x1, x2⟩ := (keeps_below hb).ext hr
        exact ⟨_, _, M, rfl, x1, x2, by simp [VRel, joinV]⟩
end
end
end Go.Vai
end
