/- arm's words: which rows a word can't be of, what its fields put and get. -/
import Derived.Test.YtpmlihmaodpmfaaGreatDoorHeads
import Derived.Test.YtpmlihmaodpmfaaGreatDoorRvLaw
import Derived.Test.YtpmlihmaodpmfaaGreatDoorVaiH
import Derived.KernelRfl
namespace Go.Proofs.YtpmlihmaodpmfaaGreatDoor
open Go Go.Vai
noncomputable section
set_option maxRecDepth 100000
abbrev bw (x : Int) : Nat := bitsOf .u32 x
def putOf (f : ArNum) (n : Int) : Int := arPutV f.t f.b f.k f.y f.l f.h n
def getOf (f : ArNum) (w : Int) : Int := arGetV f.t f.b f.k f.y f.l f.h w
def okF (f : ArNum) : Bool := okNum f.t f.b f.k f.y
def spanOf (f : ArNum) : Nat :=
  bif ieq f.k (.ofNat 1) then ((bw (wrapR .u32 (Int.sub (wrapR .u32 (shlI (.ofNat 1) (Nat.min (Int.toNat f.b) 32))) (.ofNat 1)))) <<< (Nat.min (Int.toNat f.t) 32)) % 2 ^ 32
  else bif ieq f.k (.ofNat 2) then 1627389920 else bif ieq f.k (.ofNat 3) then 4294966272 else 0
theorem bc_inv {α : Type} {b : Bool} {x y : Option α} {r : α} (h : bc b x y = some r) : (b = true ∧ x = some r) ∨ (b = false ∧ y = some r) := bc_some h
theorem sub_shl {n m t i : Nat} (h : ∀ j, n.testBit j = true → m.testBit j = true) (hi : ((n <<< t) % 2 ^ 32).testBit i = true) : ((m <<< t) % 2 ^ 32).testBit i = true := by
  rw [Nat.testBit_mod_two_pow, Nat.testBit_shiftLeft] at hi ⊢
  simp only [Bool.and_eq_true, decide_eq_true_eq] at hi ⊢
  exact ⟨hi.1, hi.2.1, h _ hi.2.2⟩
theorem shl_sub {z : Int} {m : Nat} {t i : Nat} (h : ∀ j, (bw z).testBit j = true → m.testBit j = true) (hi : (bw (wrapR .u32 (shlI (wrapR .u32 z) t))).testBit i = true) : ((m <<< t) % 2 ^ 32).testBit i = true := by
  rw [bw, bits_u32, wrap_bits, bits_shl] at hi
  exact sub_shl h hi
theorem and_sub {x y : Int} (j : Nat) (h : (bw (andI .u32 x y)).testBit j = true) : (bw y).testBit j = true := by
  rw [bw, bits_and, Nat.testBit_and, Bool.and_eq_true] at h
  exact h.2
theorem any_shl {z : Int} {t i : Nat} (hi : (bw (wrapR .u32 (shlI z t))).testBit i = true) : t ≤ i ∧ i < 32 := by
  have e : bw (wrapR .u32 (shlI z t)) = bw (shlI (.ofNat (bw z)) t) := by
    rw [bw, bits_u32]
    have h1 := bitsB (k := .u32) (x := shlI z t)
    have h2 := bitsB (k := .u32) (x := shlI (.ofNat (bw z)) t)
    have h3 : (Int.ofNat (bw z)) = z % ((2 ^ IntKind.u32.bits : Nat) : Int) := bitsB (k := .u32) (x := z)
    refine Int.ofNat.inj ((h1.trans ?_).trans h2.symm)
    rw [shlB, shlB, h3, Int.mul_emod (z % _), Int.emod_emod_of_dvd _ (Int.dvd_refl _), ← Int.mul_emod]
  rw [e, bw, bits_shl, Nat.testBit_mod_two_pow, Nat.testBit_shiftLeft] at hi
  simp only [Bool.and_eq_true, decide_eq_true_eq] at hi
  exact ⟨hi.2.1, hi.1⟩
theorem or_sub {x y : Int} {m : Nat} {i : Nat} (hx : ∀ i, (bw x).testBit i = true → m.testBit i = true) (hy : ∀ i, (bw y).testBit i = true → m.testBit i = true) (h : (bw (wrapR .u32 (orI .u32 x y))).testBit i = true) : m.testBit i = true := by
  rw [bw, bits_u32, bits_or, Nat.testBit_or, Bool.or_eq_true] at h
  rcases h with h | h
  · exact hx i h
  · exact hy i h
theorem high_bits {i : Nat} (h : 10 ≤ i ∧ i < 32) : Nat.testBit 4294966272 i = true := by
  have : ∀ i, i < 32 → 10 ≤ i → Nat.testBit 4294966272 i = true := by decide
  exact this i h.2 h.1
theorem put_sub {f : ArNum} (hok : okF f = true) (n : Int) {i : Nat} (h : (bw (putOf f n)).testBit i = true) : (spanOf f).testBit i = true := by
  have e := arPutT_val f.t f.b f.k f.y f.l f.h n hok
  change _ = some (AV.int .u32 (putOf f n)) at e
  unfold arPutT at e
  unfold spanOf
  rcases bc_inv e with ⟨h1, e⟩ | ⟨h1, e⟩
  · rw [h1]
    simp only [cond_true]
    rcases bc_inv e with ⟨_, e⟩ | ⟨_, e⟩
    · cases e
    rcases bc_inv e with ⟨_, e⟩ | ⟨_, e⟩
    · cases e
    rcases bc_inv e with ⟨_, e⟩ | ⟨_, e⟩
    · cases e
    simp only [Option.some.injEq, AV.int.injEq, true_and] at e
    rw [← e] at h
    exact shl_sub (fun j hj => and_sub j hj) h
  · rw [h1]
    simp only [cond_false]
    rcases bc_inv e with ⟨h2, e⟩ | ⟨h2, e⟩
    · rw [h2]
      simp only [cond_true]
      simp only [Option.some.injEq, AV.int.injEq, true_and] at e
      rw [← e] at h
      refine or_sub (fun i hi => ?_) (fun i hi => ?_) h
      · have := shl_sub (m := bw (.ofNat 3)) (fun j hj => and_sub j hj) hi
        rw [show ((bw (.ofNat 3) <<< 29) % 2 ^ 32 : Nat) = 1610612736 by kernel_rfl] at this
        rw [show 1627389920 = 1610612736 ||| 16777184 from rfl, Nat.testBit_or, this]; rfl
      · have := shl_sub (m := bw (.ofNat 524287)) (fun j hj => and_sub j hj) hi
        rw [show ((bw (.ofNat 524287) <<< 5) % 2 ^ 32 : Nat) = 16777184 by kernel_rfl] at this
        rw [show 1627389920 = 1610612736 ||| 16777184 from rfl, Nat.testBit_or, this, Bool.or_true]
    · rw [h2]
      simp only [cond_false]
      rcases bc_inv e with ⟨h3, e⟩ | ⟨h3, e⟩
      · rw [h3]
        simp only [cond_true]
        simp only [Option.some.injEq, AV.int.injEq, true_and] at e
        rw [← e] at h
        refine or_sub (fun i hi => or_sub (fun i hi => ?_) (fun i hi => ?_) hi) (fun i hi => ?_) h
        · have := any_shl hi; exact high_bits ⟨by omega, this.2⟩
        · have := any_shl hi; exact high_bits ⟨by omega, this.2⟩
        · have := any_shl hi; exact high_bits ⟨by omega, this.2⟩
      · simp only [Option.some.injEq, AV.int.injEq, true_and] at e
        rw [← e] at h
        exact absurd h (by rw [show bw (.ofNat 0) = 0 from rfl, Nat.zero_testBit]; decide)
def okRow (x : ArRow) : Bool := okF x.a && (okF x.b && (okF x.c && (okF x.d && okF x.m)))
def wordOf (x : ArRow) (a b c d m : Int) : Int := wrapR .u32 (orI .u32 (wrapR .u32 (orI .u32 (wrapR .u32 (orI .u32 (wrapR .u32 (orI .u32 (wrapR .u32 (orI .u32 x.w (putOf x.a a))) (putOf x.b b))) (putOf x.c c))) (putOf x.d d))) (putOf x.m m))
theorem bits_eq (x : ArRow) (hok : okRow x = true) (nm : List UInt8) (a b c d m : Int) : arBitsV x.nm x.w x.a.t x.a.b x.a.k x.a.y x.a.l x.a.h x.b.t x.b.b x.b.k x.b.y x.b.l x.b.h x.c.t x.c.b x.c.k x.c.y x.c.l x.c.h x.d.t x.d.b x.d.k x.d.y x.d.l x.d.h x.m.t x.m.b x.m.k x.m.y x.m.l x.m.h x.ops nm a b c d m = wordOf x a b c d m := by
  have h := arBitsT_val x.nm x.w x.a.t x.a.b x.a.k x.a.y x.a.l x.a.h x.b.t x.b.b x.b.k x.b.y x.b.l x.b.h x.c.t x.c.b x.c.k x.c.y x.c.l x.c.h x.d.t x.d.b x.d.k x.d.y x.d.l x.d.h x.m.t x.m.b x.m.k x.m.y x.m.l x.m.h x.ops nm a b c d m hok
  unfold okRow okF at hok
  simp only [Bool.and_eq_true] at hok
  obtain ⟨o1, o2, o3, o4, o5⟩ := hok
  unfold arBitsT at h
  simp only [o1, o2, o3, o4, o5, eqb_int, eqb_agg, bc_true, Option.some.injEq, AV.int.injEq, true_and] at h
  exact h.symm
theorem arW_eq {x : ArRow} (hok : okRow x = true) (w : Int) : arW w x = wordOf x (getOf x.a w) (getOf x.b w) (getOf x.c w) (getOf x.d w) (getOf x.m w) := bits_eq x hok x.nm _ _ _ _ _
def allOf (x : ArRow) : Nat := bw x.w ||| spanOf x.a ||| spanOf x.b ||| spanOf x.c ||| spanOf x.d ||| spanOf x.m
theorem word_up {x : ArRow} (hok : okRow x = true) {a b c d m : Int} {i : Nat} (h : (bw (wordOf x a b c d m)).testBit i = true) : (allOf x).testBit i = true := by
  unfold okRow at hok
  simp only [Bool.and_eq_true] at hok
  obtain ⟨o1, o2, o3, o4, o5⟩ := hok
  unfold allOf
  refine or_sub (fun i hi => or_sub (fun i hi => or_sub (fun i hi => or_sub (fun i hi => or_sub (fun i hi => ?_) (fun i hi => ?_) hi) (fun i hi => ?_) hi) (fun i hi => ?_) hi) (fun i hi => ?_) hi) (fun i hi => ?_) h
  · simp only [Nat.testBit_or, hi, Bool.true_or]
  · simp only [Nat.testBit_or, put_sub o1 _ hi, Bool.true_or, Bool.or_true]
  · simp only [Nat.testBit_or, put_sub o2 _ hi, Bool.true_or, Bool.or_true]
  · simp only [Nat.testBit_or, put_sub o3 _ hi, Bool.true_or, Bool.or_true]
  · simp only [Nat.testBit_or, put_sub o4 _ hi, Bool.true_or, Bool.or_true]
  · simp only [Nat.testBit_or, put_sub o5 _ hi, Bool.or_true]
theorem word_lo {x : ArRow} {a b c d m : Int} {i : Nat} (h : (bw x.w).testBit i = true) : (bw (wordOf x a b c d m)).testBit i = true := by
  have up : ∀ {x y : Int}, (bw x).testBit i = true → (bw (wrapR .u32 (orI .u32 x y))).testBit i = true := fun {x y} h => by
    rw [bw, bits_u32, bits_or, Nat.testBit_or, h]; rfl
  exact up (up (up (up (up h))))
def conf (known : List (Nat × Bool)) (x : ArRow) : Bool := okRow x && known.any fun k => bif k.2 then !((allOf x).testBit k.1) else (bw x.w).testBit k.1
theorem miss {w : Int} {known : List (Nat × Bool)} (hk : ∀ k ∈ known, (bw w).testBit k.1 = k.2) {x : ArRow} (h : conf known x = true) : arHit w x = false := by
  unfold conf at h
  rw [Bool.and_eq_true, List.any_eq_true] at h
  obtain ⟨hok, ⟨i, b⟩, hm, hb⟩ := h
  have hi := hk _ hm
  cases hh : arHit w x with
  | false => rfl
  | true =>
    exfalso
    unfold arHit at hh
    rw [Bool.and_eq_true] at hh
    have e := hh.2
    rw [ieqB, decide_eq_true_iff, arW_eq hok] at e
    cases b with
    | true =>
      simp only [cond_true, Bool.not_eq_true'] at hb
      simp only at hi
      rw [← e] at hi
      rw [word_up hok hi] at hb
      cases hb
    | false =>
      simp only [cond_false] at hb
      simp only at hi
      have := word_lo (x := x) (a := getOf x.a w) (b := getOf x.b w) (c := getOf x.c w) (d := getOf x.d w) (m := getOf x.m w) hb
      rw [e, hi] at this
      cases this
theorem find_row {w : Int} {known : List (Nat × Bool)} (hk : ∀ k ∈ known, (bw w).testBit k.1 = k.2) {j : Nat} {x : ArRow} (hx : arRows[j]? = some x) (hpre : (arRows.take j).all (conf known) = true) (hit : arHit w x = true) : arRows.find? (arHit w) = some x :=
  arFind_at hx hit fun i hi y hy => by
    refine miss hk ?_
    rw [List.all_eq_true] at hpre
    refine hpre y ?_
    have hl : i < arRows.length := by
      rcases Nat.lt_or_ge i arRows.length with h | h
      · exact h
      · rw [List.getElem?_eq_none h] at hy; cases hy
    rw [List.mem_take_iff_getElem]
    exact ⟨i, by omega, by rw [List.getElem?_eq_getElem hl] at hy; exact Option.some.inj hy⟩
theorem known_bit {w : Int} (h : 0 ≤ w ∧ w < 4294967296) (i : Nat) (b : Bool) (e : w / ((2 ^ i : Nat) : Int) % 2 = bif b then 1 else 0) : (bw w).testBit i = b := by
  have hb := bitsB (k := .u32) (x := w)
  rw [show ((2 ^ IntKind.u32.bits : Nat) : Int) = 4294967296 from rfl, Int.emod_eq_of_lt h.1 h.2] at hb
  rw [← hb] at e
  rw [bw, Nat.testBit_eq_decide_div_mod_eq]
  have e2 : ((bitsOf .u32 w / 2 ^ i % 2 : Nat) : Int) = bif b then 1 else 0 := by
    rw [← e, Int.natCast_emod, Int.natCast_ediv]; rfl
  cases b with
  | true =>
    rw [decide_eq_true_iff]
    have e3 : ((bitsOf .u32 w / 2 ^ i % 2 : Nat) : Int) = ((1 : Nat) : Int) := e2
    exact Int.ofNat.inj e3
  | false =>
    rw [decide_eq_false_iff_not]
    intro h3
    rw [h3] at e2
    cases e2
theorem ar_of {w : Int} {x : ArRow} (h : arRows.find? (arHit w) = some x) : arDN w = x.nm ∧ arDA w = getOf x.a w ∧ arDB w = getOf x.b w ∧ arDC w = getOf x.c w ∧ arDD w = getOf x.d w ∧ arDI w = getOf x.m w ∧ arDE w = .ofNat 0 := by
  have e : arO w = arOut w (some x) := by unfold arO; rw [h]
  unfold arDN arDA arDB arDC arDD arDI arDE
  rw [e]
  exact ⟨rfl, rfl, rfl, rfl, rfl, rfl, rfl⟩
end
end Go.Proofs.YtpmlihmaodpmfaaGreatDoor
