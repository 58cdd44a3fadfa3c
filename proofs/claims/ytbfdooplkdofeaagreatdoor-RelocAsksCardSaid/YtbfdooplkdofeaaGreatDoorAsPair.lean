/- Pair, both: the first high half at a place, of 60 at most. -/
import Derived.Test.YtbfdooplkdofeaaGreatDoorAsBase
import Derived.Test.YtbfdooplkdofeaaGreatDoorVaiView2
import Derived.Test.YtbfdooplkdofeaaGreatDoorVaiH
import Derived.KernelRfl
namespace Go.Proofs.YtbfdooplkdofeaaGreatDoor
open Go Go.Vai
noncomputable section
set_option maxRecDepth 100000
def flat2 (ps : List (Int × Int)) : List AV := List.rec (motive := fun _ => List AV) [] (fun p _ ih => .int .u64 p.1 :: .int .u64 p.2 :: ih) ps
def prT (l : List (Int × Int)) (x : Int) : Option AV := List.rec (motive := fun _ => Option AV) (some (.tup [.int .u64 (.ofNat 0), .int .i64 (.ofNat 27)])) (fun p _ ih => bc (ieq p.1 x) (some (.tup [.int .u64 p.2, .int .i64 (.ofNat 0)])) ih) l
def prX (l : List (Int × Int)) (x : Int) : Int := List.rec (motive := fun _ => Int) (.ofNat 0) (fun p _ ih => bc (ieq p.1 x) p.2 ih) l
def prE (l : List (Int × Int)) (x : Int) : Int := List.rec (motive := fun _ => Int) (.ofNat 27) (fun p _ ih => bc (ieq p.1 x) (.ofNat 0) ih) l
def prV (l : List (Int × Int)) (x : Int) : AV := .tup [.int .u64 (prX l x), .int .i64 (prE l x)]
theorem prT_val (x : Int) : ∀ l, prT l x = some (prV l x)
  | [] => rfl
  | p :: l => by
    show bc (ieq p.1 x) (some (.tup [.int .u64 p.2, .int .i64 (.ofNat 0)])) (prT l x) = some (.tup [.int .u64 (bc (ieq p.1 x) p.2 (prX l x)), .int .i64 (bc (ieq p.1 x) (.ofNat 0) (prE l x))])
    rw [prT_val x l]
    cases ieq p.1 x <;> rfl
def psN (a v : Nat → Int) (n : Nat) : List (Int × Int) := (List.range n).map fun i => (a i, v i)
def goP (f n : Nat) (a v : Nat → Int) (N c : Nat) (x : Int) : Option AV := Zbo E1 100000 (.call f [.sl 12 0 n (some c), .int .u64 x] (mkH 12 [.cells N (Tr.nil.putAll 0 (flat2 (psN a v n))) 0 none 0 true false])) [] jK
def PW (f n : Nat) : Prop := ∀ (a v : Nat → Int) (N c : Nat) (x : Int), goP f n a v N c x = prT (psN a v n) x
theorem pr9_0 : PW 9 0 := fun _ _ _ _ _ => by kernel_rfl
theorem pr9_1 : PW 9 1 := fun _ _ _ _ _ => by kernel_rfl
theorem pr9_2 : PW 9 2 := fun _ _ _ _ _ => by kernel_rfl
theorem pr9_3 : PW 9 3 := fun _ _ _ _ _ => by kernel_rfl
theorem pr9_4 : PW 9 4 := fun _ _ _ _ _ => by kernel_rfl
theorem pr9_5 : PW 9 5 := fun _ _ _ _ _ => by kernel_rfl
theorem pr9_6 : PW 9 6 := fun _ _ _ _ _ => by kernel_rfl
theorem pr9_7 : PW 9 7 := fun _ _ _ _ _ => by kernel_rfl
theorem pr9_8 : PW 9 8 := fun _ _ _ _ _ => by kernel_rfl
theorem pr9_9 : PW 9 9 := fun _ _ _ _ _ => by kernel_rfl
theorem pr9_10 : PW 9 10 := fun _ _ _ _ _ => by kernel_rfl
theorem pr9_11 : PW 9 11 := fun _ _ _ _ _ => by kernel_rfl
theorem pr9_12 : PW 9 12 := fun _ _ _ _ _ => by kernel_rfl
theorem pr9_13 : PW 9 13 := fun _ _ _ _ _ => by kernel_rfl
theorem pr9_14 : PW 9 14 := fun _ _ _ _ _ => by kernel_rfl
theorem pr9_15 : PW 9 15 := fun _ _ _ _ _ => by kernel_rfl
theorem pr9_16 : PW 9 16 := fun _ _ _ _ _ => by kernel_rfl
theorem pr9_17 : PW 9 17 := fun _ _ _ _ _ => by kernel_rfl
theorem pr9_18 : PW 9 18 := fun _ _ _ _ _ => by kernel_rfl
theorem pr9_19 : PW 9 19 := fun _ _ _ _ _ => by kernel_rfl
theorem pr9_20 : PW 9 20 := fun _ _ _ _ _ => by kernel_rfl
theorem pr9_21 : PW 9 21 := fun _ _ _ _ _ => by kernel_rfl
theorem pr9_22 : PW 9 22 := fun _ _ _ _ _ => by kernel_rfl
theorem pr9_23 : PW 9 23 := fun _ _ _ _ _ => by kernel_rfl
theorem pr9_24 : PW 9 24 := fun _ _ _ _ _ => by kernel_rfl
theorem pr9_25 : PW 9 25 := fun _ _ _ _ _ => by kernel_rfl
theorem pr9_26 : PW 9 26 := fun _ _ _ _ _ => by kernel_rfl
theorem pr9_27 : PW 9 27 := fun _ _ _ _ _ => by kernel_rfl
theorem pr9_28 : PW 9 28 := fun _ _ _ _ _ => by kernel_rfl
theorem pr9_29 : PW 9 29 := fun _ _ _ _ _ => by kernel_rfl
theorem pr9_30 : PW 9 30 := fun _ _ _ _ _ => by kernel_rfl
theorem pr9_31 : PW 9 31 := fun _ _ _ _ _ => by kernel_rfl
theorem pr9_32 : PW 9 32 := fun _ _ _ _ _ => by kernel_rfl
theorem pr9_33 : PW 9 33 := fun _ _ _ _ _ => by kernel_rfl
theorem pr9_34 : PW 9 34 := fun _ _ _ _ _ => by kernel_rfl
theorem pr9_35 : PW 9 35 := fun _ _ _ _ _ => by kernel_rfl
theorem pr9_36 : PW 9 36 := fun _ _ _ _ _ => by kernel_rfl
theorem pr9_37 : PW 9 37 := fun _ _ _ _ _ => by kernel_rfl
theorem pr9_38 : PW 9 38 := fun _ _ _ _ _ => by kernel_rfl
theorem pr9_39 : PW 9 39 := fun _ _ _ _ _ => by kernel_rfl
theorem pr9_40 : PW 9 40 := fun _ _ _ _ _ => by kernel_rfl
theorem pr9_41 : PW 9 41 := fun _ _ _ _ _ => by kernel_rfl
theorem pr9_42 : PW 9 42 := fun _ _ _ _ _ => by kernel_rfl
theorem pr9_43 : PW 9 43 := fun _ _ _ _ _ => by kernel_rfl
theorem pr9_44 : PW 9 44 := fun _ _ _ _ _ => by kernel_rfl
theorem pr9_45 : PW 9 45 := fun _ _ _ _ _ => by kernel_rfl
theorem pr9_46 : PW 9 46 := fun _ _ _ _ _ => by kernel_rfl
theorem pr9_47 : PW 9 47 := fun _ _ _ _ _ => by kernel_rfl
theorem pr9_48 : PW 9 48 := fun _ _ _ _ _ => by kernel_rfl
theorem pr9_49 : PW 9 49 := fun _ _ _ _ _ => by kernel_rfl
theorem pr9_50 : PW 9 50 := fun _ _ _ _ _ => by kernel_rfl
theorem pr9_51 : PW 9 51 := fun _ _ _ _ _ => by kernel_rfl
theorem pr9_52 : PW 9 52 := fun _ _ _ _ _ => by kernel_rfl
theorem pr9_53 : PW 9 53 := fun _ _ _ _ _ => by kernel_rfl
theorem pr9_54 : PW 9 54 := fun _ _ _ _ _ => by kernel_rfl
theorem pr9_55 : PW 9 55 := fun _ _ _ _ _ => by kernel_rfl
theorem pr9_56 : PW 9 56 := fun _ _ _ _ _ => by kernel_rfl
theorem pr9_57 : PW 9 57 := fun _ _ _ _ _ => by kernel_rfl
theorem pr9_58 : PW 9 58 := fun _ _ _ _ _ => by kernel_rfl
theorem pr9_59 : PW 9 59 := fun _ _ _ _ _ => by kernel_rfl
theorem pr9_60 : PW 9 60 := fun _ _ _ _ _ => by kernel_rfl
theorem pr9_nil (x : Int) : Zbo E1 100000 (.call 9 [.nils, .int .u64 x] (Zap 12 gl)) [] jK = prT [] x := by kernel_rfl
theorem pr9_zero (x : Int) : Zbo E1 100000 (.call 9 [.sl0, .int .u64 x] (Zap 12 gl)) [] jK = prT [] x := by kernel_rfl
theorem pr9_all : ∀ n, n ≤ 60 → ∀ (a v : Nat → Int) (N c : Nat) (x : Int), goP 9 n a v N c x = prT (psN a v n) x
  | 0, _ => pr9_0
  | 1, _ => pr9_1
  | 2, _ => pr9_2
  | 3, _ => pr9_3
  | 4, _ => pr9_4
  | 5, _ => pr9_5
  | 6, _ => pr9_6
  | 7, _ => pr9_7
  | 8, _ => pr9_8
  | 9, _ => pr9_9
  | 10, _ => pr9_10
  | 11, _ => pr9_11
  | 12, _ => pr9_12
  | 13, _ => pr9_13
  | 14, _ => pr9_14
  | 15, _ => pr9_15
  | 16, _ => pr9_16
  | 17, _ => pr9_17
  | 18, _ => pr9_18
  | 19, _ => pr9_19
  | 20, _ => pr9_20
  | 21, _ => pr9_21
  | 22, _ => pr9_22
  | 23, _ => pr9_23
  | 24, _ => pr9_24
  | 25, _ => pr9_25
  | 26, _ => pr9_26
  | 27, _ => pr9_27
  | 28, _ => pr9_28
  | 29, _ => pr9_29
  | 30, _ => pr9_30
  | 31, _ => pr9_31
  | 32, _ => pr9_32
  | 33, _ => pr9_33
  | 34, _ => pr9_34
  | 35, _ => pr9_35
  | 36, _ => pr9_36
  | 37, _ => pr9_37
  | 38, _ => pr9_38
  | 39, _ => pr9_39
  | 40, _ => pr9_40
  | 41, _ => pr9_41
  | 42, _ => pr9_42
  | 43, _ => pr9_43
  | 44, _ => pr9_44
  | 45, _ => pr9_45
  | 46, _ => pr9_46
  | 47, _ => pr9_47
  | 48, _ => pr9_48
  | 49, _ => pr9_49
  | 50, _ => pr9_50
  | 51, _ => pr9_51
  | 52, _ => pr9_52
  | 53, _ => pr9_53
  | 54, _ => pr9_54
  | 55, _ => pr9_55
  | 56, _ => pr9_56
  | 57, _ => pr9_57
  | 58, _ => pr9_58
  | 59, _ => pr9_59
  | 60, _ => pr9_60
  | n + 61, h => absurd h (by omega)
theorem pr10_0 : PW 10 0 := fun _ _ _ _ _ => by kernel_rfl
theorem pr10_1 : PW 10 1 := fun _ _ _ _ _ => by kernel_rfl
theorem pr10_2 : PW 10 2 := fun _ _ _ _ _ => by kernel_rfl
theorem pr10_3 : PW 10 3 := fun _ _ _ _ _ => by kernel_rfl
theorem pr10_4 : PW 10 4 := fun _ _ _ _ _ => by kernel_rfl
theorem pr10_5 : PW 10 5 := fun _ _ _ _ _ => by kernel_rfl
theorem pr10_6 : PW 10 6 := fun _ _ _ _ _ => by kernel_rfl
theorem pr10_7 : PW 10 7 := fun _ _ _ _ _ => by kernel_rfl
theorem pr10_8 : PW 10 8 := fun _ _ _ _ _ => by kernel_rfl
theorem pr10_9 : PW 10 9 := fun _ _ _ _ _ => by kernel_rfl
theorem pr10_10 : PW 10 10 := fun _ _ _ _ _ => by kernel_rfl
theorem pr10_11 : PW 10 11 := fun _ _ _ _ _ => by kernel_rfl
theorem pr10_12 : PW 10 12 := fun _ _ _ _ _ => by kernel_rfl
theorem pr10_13 : PW 10 13 := fun _ _ _ _ _ => by kernel_rfl
theorem pr10_14 : PW 10 14 := fun _ _ _ _ _ => by kernel_rfl
theorem pr10_15 : PW 10 15 := fun _ _ _ _ _ => by kernel_rfl
theorem pr10_16 : PW 10 16 := fun _ _ _ _ _ => by kernel_rfl
theorem pr10_17 : PW 10 17 := fun _ _ _ _ _ => by kernel_rfl
theorem pr10_18 : PW 10 18 := fun _ _ _ _ _ => by kernel_rfl
theorem pr10_19 : PW 10 19 := fun _ _ _ _ _ => by kernel_rfl
theorem pr10_20 : PW 10 20 := fun _ _ _ _ _ => by kernel_rfl
theorem pr10_21 : PW 10 21 := fun _ _ _ _ _ => by kernel_rfl
theorem pr10_22 : PW 10 22 := fun _ _ _ _ _ => by kernel_rfl
theorem pr10_23 : PW 10 23 := fun _ _ _ _ _ => by kernel_rfl
theorem pr10_24 : PW 10 24 := fun _ _ _ _ _ => by kernel_rfl
theorem pr10_25 : PW 10 25 := fun _ _ _ _ _ => by kernel_rfl
theorem pr10_26 : PW 10 26 := fun _ _ _ _ _ => by kernel_rfl
theorem pr10_27 : PW 10 27 := fun _ _ _ _ _ => by kernel_rfl
theorem pr10_28 : PW 10 28 := fun _ _ _ _ _ => by kernel_rfl
theorem pr10_29 : PW 10 29 := fun _ _ _ _ _ => by kernel_rfl
theorem pr10_30 : PW 10 30 := fun _ _ _ _ _ => by kernel_rfl
theorem pr10_31 : PW 10 31 := fun _ _ _ _ _ => by kernel_rfl
theorem pr10_32 : PW 10 32 := fun _ _ _ _ _ => by kernel_rfl
theorem pr10_33 : PW 10 33 := fun _ _ _ _ _ => by kernel_rfl
theorem pr10_34 : PW 10 34 := fun _ _ _ _ _ => by kernel_rfl
theorem pr10_35 : PW 10 35 := fun _ _ _ _ _ => by kernel_rfl
theorem pr10_36 : PW 10 36 := fun _ _ _ _ _ => by kernel_rfl
theorem pr10_37 : PW 10 37 := fun _ _ _ _ _ => by kernel_rfl
theorem pr10_38 : PW 10 38 := fun _ _ _ _ _ => by kernel_rfl
theorem pr10_39 : PW 10 39 := fun _ _ _ _ _ => by kernel_rfl
theorem pr10_40 : PW 10 40 := fun _ _ _ _ _ => by kernel_rfl
theorem pr10_41 : PW 10 41 := fun _ _ _ _ _ => by kernel_rfl
theorem pr10_42 : PW 10 42 := fun _ _ _ _ _ => by kernel_rfl
theorem pr10_43 : PW 10 43 := fun _ _ _ _ _ => by kernel_rfl
theorem pr10_44 : PW 10 44 := fun _ _ _ _ _ => by kernel_rfl
theorem pr10_45 : PW 10 45 := fun _ _ _ _ _ => by kernel_rfl
theorem pr10_46 : PW 10 46 := fun _ _ _ _ _ => by kernel_rfl
theorem pr10_47 : PW 10 47 := fun _ _ _ _ _ => by kernel_rfl
theorem pr10_48 : PW 10 48 := fun _ _ _ _ _ => by kernel_rfl
theorem pr10_49 : PW 10 49 := fun _ _ _ _ _ => by kernel_rfl
theorem pr10_50 : PW 10 50 := fun _ _ _ _ _ => by kernel_rfl
theorem pr10_51 : PW 10 51 := fun _ _ _ _ _ => by kernel_rfl
theorem pr10_52 : PW 10 52 := fun _ _ _ _ _ => by kernel_rfl
theorem pr10_53 : PW 10 53 := fun _ _ _ _ _ => by kernel_rfl
theorem pr10_54 : PW 10 54 := fun _ _ _ _ _ => by kernel_rfl
theorem pr10_55 : PW 10 55 := fun _ _ _ _ _ => by kernel_rfl
theorem pr10_56 : PW 10 56 := fun _ _ _ _ _ => by kernel_rfl
theorem pr10_57 : PW 10 57 := fun _ _ _ _ _ => by kernel_rfl
theorem pr10_58 : PW 10 58 := fun _ _ _ _ _ => by kernel_rfl
theorem pr10_59 : PW 10 59 := fun _ _ _ _ _ => by kernel_rfl
theorem pr10_60 : PW 10 60 := fun _ _ _ _ _ => by kernel_rfl
theorem pr10_nil (x : Int) : Zbo E1 100000 (.call 10 [.nils, .int .u64 x] (Zap 12 gl)) [] jK = prT [] x := by kernel_rfl
theorem pr10_zero (x : Int) : Zbo E1 100000 (.call 10 [.sl0, .int .u64 x] (Zap 12 gl)) [] jK = prT [] x := by kernel_rfl
theorem pr10_all : ∀ n, n ≤ 60 → ∀ (a v : Nat → Int) (N c : Nat) (x : Int), goP 10 n a v N c x = prT (psN a v n) x
  | 0, _ => pr10_0
  | 1, _ => pr10_1
  | 2, _ => pr10_2
  | 3, _ => pr10_3
  | 4, _ => pr10_4
  | 5, _ => pr10_5
  | 6, _ => pr10_6
  | 7, _ => pr10_7
  | 8, _ => pr10_8
  | 9, _ => pr10_9
  | 10, _ => pr10_10
  | 11, _ => pr10_11
  | 12, _ => pr10_12
  | 13, _ => pr10_13
  | 14, _ => pr10_14
  | 15, _ => pr10_15
  | 16, _ => pr10_16
  | 17, _ => pr10_17
  | 18, _ => pr10_18
  | 19, _ => pr10_19
  | 20, _ => pr10_20
  | 21, _ => pr10_21
  | 22, _ => pr10_22
  | 23, _ => pr10_23
  | 24, _ => pr10_24
  | 25, _ => pr10_25
  | 26, _ => pr10_26
  | 27, _ => pr10_27
  | 28, _ => pr10_28
  | 29, _ => pr10_29
  | 30, _ => pr10_30
  | 31, _ => pr10_31
  | 32, _ => pr10_32
  | 33, _ => pr10_33
  | 34, _ => pr10_34
  | 35, _ => pr10_35
  | 36, _ => pr10_36
  | 37, _ => pr10_37
  | 38, _ => pr10_38
  | 39, _ => pr10_39
  | 40, _ => pr10_40
  | 41, _ => pr10_41
  | 42, _ => pr10_42
  | 43, _ => pr10_43
  | 44, _ => pr10_44
  | 45, _ => pr10_45
  | 46, _ => pr10_46
  | 47, _ => pr10_47
  | 48, _ => pr10_48
  | 49, _ => pr10_49
  | 50, _ => pr10_50
  | 51, _ => pr10_51
  | 52, _ => pr10_52
  | 53, _ => pr10_53
  | 54, _ => pr10_54
  | 55, _ => pr10_55
  | 56, _ => pr10_56
  | 57, _ => pr10_57
  | 58, _ => pr10_58
  | 59, _ => pr10_59
  | 60, _ => pr10_60
  | n + 61, h => absurd h (by omega)
def pairs2 : List AV → Option (List (Int × Int))
  | [] => some []
  | .int .u64 a :: .int .u64 v :: l => match pairs2 l with
    | some ps => some ((a, v) :: ps)
    | none => none
  | _ => none
theorem pairs2_eq : ∀ {cs : List AV} {ps : List (Int × Int)}, pairs2 cs = some ps → cs = flat2 ps
  | [], ps, h => by
    simp only [pairs2, Option.some.injEq] at h
    subst h; rfl
  | [a], ps, h => by cases a <;> simp [pairs2] at h
  | a :: b :: l, ps, h => by
    unfold pairs2 at h
    split at h
    · rename_i e; cases e
    · rename_i x y m e
      cases e
      split at h
      · rename_i qs hq
        simp only [Option.some.injEq] at h
        subst h
        rw [pairs2_eq hq]; rfl
      · cases h
    · cases h
theorem flat2_len : ∀ ps : List (Int × Int), (flat2 ps).length = 2 * ps.length
  | [] => rfl
  | p :: l => by
    show (flat2 l).length + 1 + 1 = 2 * (l.length + 1)
    rw [flat2_len l]; omega
theorem flat2_plain : ∀ (ps : List (Int × Int)) (v : AV), v ∈ flat2 ps → Plain v
  | p :: l, v, h => by
    have h : v ∈ AV.int .u64 p.1 :: AV.int .u64 p.2 :: flat2 l := h
    rcases List.mem_cons.1 h with rfl | h
    · exact plain_int _ _
    rcases List.mem_cons.1 h with rfl | h
    · exact plain_int _ _
    · exact flat2_plain l v h
theorem psN_of (ps : List (Int × Int)) : psN (fun i => (ps.getD i (0, 0)).1) (fun i => (ps.getD i (0, 0)).2) ps.length = ps := by
  refine List.ext_getElem (by simp [psN]) fun i h1 h2 => ?_
  simp only [psN, List.getElem_map, List.getElem_range, List.getD_eq_getElem?_getD, List.getElem?_eq_getElem h2, Option.getD_some]
def prAt (l : Nat) (x : Int) (H : AHeap) : Option AObj → Option (AV × AHeap)
  | some (.cells _ T _ _ _ _ _) => match (T.getAll 0 (2 * l)).bind pairs2 with
    | some ps => some (prV ps x, H)
    | none => none
  | _ => none
def prSm (f : Nat) : Sm := fun g args H => match args with
  | [.sl id o l (some _), .int .u64 x] => bif Nat.beq g f && (Nat.beq o 0 && Nat.ble l 60) then prAt l x H (H.get id) else none
  | [.nils, .int .u64 x] => bif Nat.beq g f then some (prV [] x, H) else none
  | [.sl0, .int .u64 x] => bif Nat.beq g f then some (prV [] x, H) else none
  | _ => none
theorem ret_of {E : Env} {n f : Nat} {args : List AV} {H : AHeap} {u : AV} (h : Zbo E n (.call f args H) [] jK = some u) : ∃ v1 H1, run E n (.call f args H) = some (.call (.ret v1 H1)) ∧ rnV 0 [] v1 = some u := by
  obtain ⟨x, o', e, hk⟩ := callP_ok E n _ _ _ _ h
  cases x with
  | code a b c => cases hk
  | dcall a => cases hk
  | call c =>
    cases c with
    | pan v H => cases hk
    | ret v1 H1 => exact ⟨v1, H1, e, hk⟩
theorem pr_ok {f : Nat} (hf : (E1.fn f).isSome = true) (hall : ∀ n, n ≤ 60 → ∀ (a v : Nat → Int) (N c : Nat) (x : Int), goP f n a v N c x = prT (psN a v n) x) (hnil : ∀ x : Int, Zbo E1 100000 (.call f [.nils, .int .u64 x] (Zap 12 gl)) [] jK = prT [] x) (hzero : ∀ x : Int, Zbo E1 100000 (.call f [.sl0, .int .u64 x] (Zap 12 gl)) [] jK = prT [] x) : SmOk Tryz.prog gl (prSm f) := by
  intro g args H v H' M w cargs hs hw hr ha
  unfold prSm at hs
  split at hs
  case h_4 => cases hs
  · rename_i id o l c x
    cases hc : Nat.beq g f && (Nat.beq o 0 && Nat.ble l 60) with
    | false => rw [hc] at hs; cases hs
    | true =>
      rw [hc] at hs
      simp only [cond_true] at hs
      rw [Bool.and_eq_true, Bool.and_eq_true, Nat.beq_eq, Nat.beq_eq, Nat.ble_eq] at hc
      obtain ⟨rfl, rfl, hl⟩ := hc
      unfold prAt at hs
      split at hs
      case h_2 => cases hs
      rename_i n T e gx fz ro mk hg
      split at hs
      case h_2 => cases hs
      rename_i ps hps
      simp only [Option.some.injEq, Prod.mk.injEq] at hs
      obtain ⟨rfl, rfl⟩ := hs
      obtain ⟨cs, h1, h2⟩ := Option.bind_eq_some_iff.1 hps
      obtain ⟨hlen, hget⟩ := Tr.getAll_spec _ h1
      have hcs := pairs2_eq h2
      subst hcs
      rw [flat2_len] at hlen
      have hln : ps.length = l := by omega
      subst hln
      have hT : ∀ i v, (Tr.nil.putAll 0 (flat2 ps) : Tr AV).get i = some v → T.get i = some v ∧ Plain v := by
        intro i v hv
        rcases Tr.get_putAll _ hv with ⟨q, rfl, hq⟩ | ⟨_, hu⟩
        · have hqv := List.mem_of_getElem? hq
          have hql := (List.getElem?_eq_some_iff.1 hq).1
          refine ⟨?_, flat2_plain ps v hqv⟩
          have := hget q (by rw [flat2_len] at hql; omega)
          rw [this]; exact hq
        · simp [Tr.get_nil] at hu
      obtain ⟨m, hm, hrel⟩ := hr.obj id _ hg
      have hsub := row_sub hrel hT 0
      match cargs, ha with
      | [cv0, cv1], ⟨r0, r1, _⟩ =>
        obtain ⟨m', c', hm', rfl, _, _⟩ := r0
        rw [hm] at hm'; cases hm'
        have hx : (Zc2 E1.ng 0 ++ [m])[E1.ng]? = some m := by
          rw [List.getElem?_append_right (by rw [Zbz]; omega), Zbz, Nat.sub_self]; rfl
        have key := hall ps.length hl (fun i => (ps.getD i (0, 0)).1) (fun i => (ps.getD i (0, 0)).2) n c' x
        rw [psN_of, prT_val] at key
        unfold goP at key
        rw [psN_of] at key
        obtain ⟨v1, H1, e1, e2⟩ := ret_of key
        refine view_closed (E := E1) (ex := [m]) (os := [.cells n (Tr.nil.putAll 0 (flat2 ps)) 0 none 0 true false]) (args := [.sl 12 0 ps.length (some c'), .int .u64 x]) Zbf hf hw hr rfl (fun o ho => by cases List.mem_singleton.1 ho; rfl) (fun j m2 o2 e1 e2 => ?_) ⟨⟨m, c', hx, rfl, (fun d e => by cases e; rfl), (fun e => by cases e)⟩, r1, trivial⟩ e2 e1
        match j, e1, e2 with
        | 0, e1, e2 => cases e1; cases e2; exact hsub
        | j + 1, e1, e2 => simp at e1
  · rename_i x
    cases hb : Nat.beq g f with
    | false => rw [hb] at hs; cases hs
    | true =>
      rw [hb] at hs
      simp only [cond_true, Option.some.injEq, Prod.mk.injEq] at hs
      obtain ⟨rfl, rfl⟩ := hs
      rw [Nat.beq_eq] at hb
      subst hb
      have key := hnil x
      rw [prT_val] at key
      have F : SmOk Tryz.prog gl (Zaz fun h args => match args with
        | [.nils, .int .u64 y] => bif Nat.beq h g && ieq y x then some (prV [] x) else none
        | _ => none) := plain_ok fun h args v hv => by
          split at hv
          case h_2 => cases hv
          rename_i y
          cases hc : Nat.beq h g && ieq y x with
          | false => rw [hc] at hv; cases hv
          | true =>
            rw [hc] at hv
            simp only [cond_true, Option.some.injEq] at hv
            subst hv
            rw [Bool.and_eq_true, Nat.beq_eq, Zae, decide_eq_true_iff] at hc
            obtain ⟨rfl, rfl⟩ := hc
            exact ⟨E1, 100000, Zbf, Za3, hf, (fun a ha => by
              rcases List.mem_cons.1 ha with rfl | ha
              · exact fun _ _ => rfl
              · cases List.mem_singleton.1 ha; exact plain_int _ _), [], key⟩
      refine F g _ H _ H M w cargs ?_ hw hr ha
      unfold Zaz
      simp only [Nat.beq_refl, Bool.true_and]
      rw [show ieq x x = true by rw [Zae]; exact decide_eq_true rfl]
      rfl
  · rename_i x
    cases hb : Nat.beq g f with
    | false => rw [hb] at hs; cases hs
    | true =>
      rw [hb] at hs
      simp only [cond_true, Option.some.injEq, Prod.mk.injEq] at hs
      obtain ⟨rfl, rfl⟩ := hs
      rw [Nat.beq_eq] at hb
      subst hb
      have key := hzero x
      rw [prT_val] at key
      have F : SmOk Tryz.prog gl (Zaz fun h args => match args with
        | [.sl0, .int .u64 y] => bif Nat.beq h g && ieq y x then some (prV [] x) else none
        | _ => none) := plain_ok fun h args v hv => by
          split at hv
          case h_2 => cases hv
          rename_i y
          cases hc : Nat.beq h g && ieq y x with
          | false => rw [hc] at hv; cases hv
          | true =>
            rw [hc] at hv
            simp only [cond_true, Option.some.injEq] at hv
            subst hv
            rw [Bool.and_eq_true, Nat.beq_eq, Zae, decide_eq_true_iff] at hc
            obtain ⟨rfl, rfl⟩ := hc
            exact ⟨E1, 100000, Zbf, Za3, hf, (fun a ha => by
              rcases List.mem_cons.1 ha with rfl | ha
              · exact fun _ _ => rfl
              · cases List.mem_singleton.1 ha; exact plain_int _ _), [], key⟩
      refine F g _ H _ H M w cargs ?_ hw hr ha
      unfold Zaz
      simp only [Nat.beq_refl, Bool.true_and]
      rw [show ieq x x = true by rw [Zae]; exact decide_eq_true rfl]
      rfl
theorem pr9_ok : SmOk Tryz.prog gl (prSm 9) := pr_ok (by kernel_rfl) pr9_all pr9_nil pr9_zero
theorem pr10_ok : SmOk Tryz.prog gl (prSm 10) := pr_ok (by kernel_rfl) pr10_all pr10_nil pr10_zero
end
end Go.Proofs.YtbfdooplkdofeaaGreatDoor
