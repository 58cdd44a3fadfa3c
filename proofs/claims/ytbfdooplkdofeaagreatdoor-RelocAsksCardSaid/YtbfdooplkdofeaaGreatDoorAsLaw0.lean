/- The law's runs, over what Of, Data and Pair answer. -/
import Derived.Test.YtbfdooplkdofeaaGreatDoorAsX2
import Derived.Test.YtbfdooplkdofeaaGreatDoorAsPair
import Derived.Test.YtbfdooplkdofeaaGreatDoorAsBegun
import Derived.KernelRfl
namespace Go.Proofs.YtbfdooplkdofeaaGreatDoor
open Go Go.Vai
noncomputable section
set_option maxRecDepth 100000
abbrev OfT (α : Type) := Int → List UInt8 → Int → Int → Int → Int → Int → List UInt8 → α
def ofFv (oa ob : OfT Int) (oc : OfT Bool) : Nat → List AV → Option AV := fun f args => bif Nat.beq f 5 || Nat.beq f 6 then (match args with
  | [.int .i64 t, .agg [.str nm, .int .i64 A, .int .i64 B, .int .i64 C, .int .i64 D, .int .i64 I], .str mod] => some (trV (oa t nm A B C D I mod) (ob t nm A B C D I mod) (oc t nm A B C D I mod))
  | _ => none) else none
def EL (oa ob : OfT Int) (oc : OfT Bool) : Env := Zdn Tryz.prog 12 [15, 4, 5, 6, 7, 9, 10] (orSm (Zd2 kinds) (orSm (Zb7 15) (orSm (retSm 4 true) (orSm (Zaz (ofFv oa ob oc)) (orSm dataSm (orSm (prSm 9) (prSm 10)))))))
def rdT (t s : Int) (k : Int → Bool → Option AV) : Option AV := bc (!(ieq s (.ofNat 4))) (bc (!(ieq s (.ofNat 8))) (k (.ofNat 0) false) (bc (ieq t (.ofNat 1)) (bc (ieq s (.ofNat 8)) (k (.ofNat 1) true) (bc (ieq t (.ofNat 1)) (k (.ofNat 10) true) (bc (ieq t (.ofNat 2)) (bc (ieq s (.ofNat 8)) (k (.ofNat 257) true) (bc (ieq t (.ofNat 2)) (k (.ofNat 258) true) (bc (ieq t (.ofNat 3)) (bc (ieq s (.ofNat 8)) (k (.ofNat 2) true) (bc (ieq t (.ofNat 3)) (k (.ofNat 1) true) (k (.ofNat 0) false))) (bc (ieq t (.ofNat 3)) (k (.ofNat 1) true) (k (.ofNat 0) false))))) (bc (ieq t (.ofNat 2)) (k (.ofNat 258) true) (bc (ieq t (.ofNat 3)) (bc (ieq s (.ofNat 8)) (k (.ofNat 2) true) (bc (ieq t (.ofNat 3)) (k (.ofNat 1) true) (k (.ofNat 0) false))) (bc (ieq t (.ofNat 3)) (k (.ofNat 1) true) (k (.ofNat 0) false))))))) (bc (ieq t (.ofNat 1)) (k (.ofNat 10) true) (bc (ieq t (.ofNat 2)) (bc (ieq s (.ofNat 8)) (k (.ofNat 257) true) (bc (ieq t (.ofNat 2)) (k (.ofNat 258) true) (bc (ieq t (.ofNat 3)) (bc (ieq s (.ofNat 8)) (k (.ofNat 2) true) (bc (ieq t (.ofNat 3)) (k (.ofNat 1) true) (k (.ofNat 0) false))) (bc (ieq t (.ofNat 3)) (k (.ofNat 1) true) (k (.ofNat 0) false))))) (bc (ieq t (.ofNat 2)) (k (.ofNat 258) true) (bc (ieq t (.ofNat 3)) (bc (ieq s (.ofNat 8)) (k (.ofNat 2) true) (bc (ieq t (.ofNat 3)) (k (.ofNat 1) true) (k (.ofNat 0) false))) (bc (ieq t (.ofNat 3)) (k (.ofNat 1) true) (k (.ofNat 0) false)))))))) (bc (ieq t (.ofNat 1)) (bc (ieq s (.ofNat 8)) (k (.ofNat 1) true) (bc (ieq t (.ofNat 1)) (k (.ofNat 10) true) (bc (ieq t (.ofNat 2)) (bc (ieq s (.ofNat 8)) (k (.ofNat 257) true) (bc (ieq t (.ofNat 2)) (k (.ofNat 258) true) (bc (ieq t (.ofNat 3)) (bc (ieq s (.ofNat 8)) (k (.ofNat 2) true) (bc (ieq t (.ofNat 3)) (k (.ofNat 1) true) (k (.ofNat 0) false))) (bc (ieq t (.ofNat 3)) (k (.ofNat 1) true) (k (.ofNat 0) false))))) (bc (ieq t (.ofNat 2)) (k (.ofNat 258) true) (bc (ieq t (.ofNat 3)) (bc (ieq s (.ofNat 8)) (k (.ofNat 2) true) (bc (ieq t (.ofNat 3)) (k (.ofNat 1) true) (k (.ofNat 0) false))) (bc (ieq t (.ofNat 3)) (k (.ofNat 1) true) (k (.ofNat 0) false))))))) (bc (ieq t (.ofNat 1)) (k (.ofNat 10) true) (bc (ieq t (.ofNat 2)) (bc (ieq s (.ofNat 8)) (k (.ofNat 257) true) (bc (ieq t (.ofNat 2)) (k (.ofNat 258) true) (bc (ieq t (.ofNat 3)) (bc (ieq s (.ofNat 8)) (k (.ofNat 2) true) (bc (ieq t (.ofNat 3)) (k (.ofNat 1) true) (k (.ofNat 0) false))) (bc (ieq t (.ofNat 3)) (k (.ofNat 1) true) (k (.ofNat 0) false))))) (bc (ieq t (.ofNat 2)) (k (.ofNat 258) true) (bc (ieq t (.ofNat 3)) (bc (ieq s (.ofNat 8)) (k (.ofNat 2) true) (bc (ieq t (.ofNat 3)) (k (.ofNat 1) true) (k (.ofNat 0) false))) (bc (ieq t (.ofNat 3)) (k (.ofNat 1) true) (k (.ofNat 0) false)))))))
def finT (oa ob : Int) (oc : Bool) (dv : Int) (db : Bool) (px pe : Int) (y : Int) (b : Bool) : Option AV := bc (ieq oa oa) (bc (ieq ob ob) (bc (oc == oc) (bc (ieq dv y) (bc (db == b) (bc (ieq px px) (some (.bool (ieq pe pe))) (some (.bool false))) (some (.bool false))) (some (.bool false))) (some (.bool false))) (some (.bool false))) (some (.bool false))
theorem finT_ok (oa ob : Int) (oc : Bool) (dv : Int) (db : Bool) (px pe : Int) : finT oa ob oc dv db px pe dv db = some (.bool true) := by
  have e : ∀ n : Int, ieq n n = true := fun n => by rw [Zae]; exact decide_eq_true rfl
  unfold finT
  rw [e, e, e, e, e]
  cases oc <;> cases db <;> rfl
theorem rdT_ok (t s : Int) (k : Int → Bool → Option AV) : rdT t s k = k (dataV t s) (dataB t s) := by
  have e4 : s = .ofNat 4 ∨ s = .ofNat 8 ∨ (ieq s (.ofNat 4) = false ∧ ieq s (.ofNat 8) = false) := by
    cases h1 : ieq s (.ofNat 4) with
    | true => exact .inl (Zei h1)
    | false => cases h2 : ieq s (.ofNat 8) with
      | true => exact .inr (.inl (Zei h2))
      | false => exact .inr (.inr ⟨rfl, rfl⟩)
  rcases t_cases t with rfl | rfl | rfl | ⟨h1, h2, h3⟩ <;> rcases e4 with rfl | rfl | ⟨g4, g8⟩
  all_goals first
    | rfl
    | (unfold rdT dataV dataB foundT Zcz
       simp only [*, List.find?, Zai, Zas, Zar, Bool.not_false, Bool.not_true, Bool.and_false, Bool.false_and, Option.isSome]
       done)
    | (unfold rdT dataV dataB foundT Zcz
       simp only [*, List.find?, Zai, Zas, Zar, Bool.not_false, Bool.not_true, Bool.and_false, Bool.false_and, Option.isSome]
       rfl)
section
variable (oa ob : OfT Int) (oc : OfT Bool) (t : Int) (nm : List UInt8) (A B C D I : Int) (mod : List UInt8) (s x : Int)
def goL (his : AV) (os : List AObj) (o : Orc) : Option AV := Zbo (EL oa ob oc) 100000 (.call 3 [.int .i64 t, insV nm A B C D I, .str mod, .int .i64 s, his, .int .u64 x] (mkH 12 os)) o jK
def lawR (ps : List (Int × Int)) : Option AV := rdT t s (finT (oa t nm A B C D I mod) (ob t nm A B C D I mod) (oc t nm A B C D I mod) (dataV t s) (dataB t s) (prX ps x) (prE ps x))
theorem lawR_ok (ps : List (Int × Int)) : lawR oa ob oc t nm A B C D I mod s x ps = some (.bool true) := by
  unfold lawR
  rw [rdT_ok, finT_ok]
theorem law_nil : goL oa ob oc t nm A B C D I mod s x .nils [] [] = lawR oa ob oc t nm A B C D I mod s x [] := by kernel_rfl
theorem law_zero : goL oa ob oc t nm A B C D I mod s x .sl0 [] [] = lawR oa ob oc t nm A B C D I mod s x [] := by kernel_rfl
theorem law_big (n c N : Nat) (T : Tr AV) : goL oa ob oc t nm A B C D I mod s x (.sl 12 0 n (some c)) [.cells N T 0 none 0 true false] [false, true] = bc (Nat.blt 60 n) (some (.bool true)) none := by kernel_rfl
def LW (n : Nat) : Prop := ∀ (a v : Nat → Int) (N c : Nat), goL oa ob oc t nm A B C D I mod s x (.sl 12 0 n (some c)) [.cells N (Tr.nil.putAll 0 (flat2 (psN a v n))) 0 none 0 true false] [] = lawR oa ob oc t nm A B C D I mod s x (psN a v n)
theorem law_0 : LW oa ob oc t nm A B C D I mod s x 0 := fun _ _ _ _ => by kernel_rfl
theorem law_1 : LW oa ob oc t nm A B C D I mod s x 1 := fun _ _ _ _ => by kernel_rfl
theorem law_2 : LW oa ob oc t nm A B C D I mod s x 2 := fun _ _ _ _ => by kernel_rfl
theorem law_3 : LW oa ob oc t nm A B C D I mod s x 3 := fun _ _ _ _ => by kernel_rfl
theorem law_4 : LW oa ob oc t nm A B C D I mod s x 4 := fun _ _ _ _ => by kernel_rfl
theorem law_5 : LW oa ob oc t nm A B C D I mod s x 5 := fun _ _ _ _ => by kernel_rfl
theorem law_6 : LW oa ob oc t nm A B C D I mod s x 6 := fun _ _ _ _ => by kernel_rfl
theorem law_7 : LW oa ob oc t nm A B C D I mod s x 7 := fun _ _ _ _ => by kernel_rfl
theorem law_8 : LW oa ob oc t nm A B C D I mod s x 8 := fun _ _ _ _ => by kernel_rfl
theorem law_9 : LW oa ob oc t nm A B C D I mod s x 9 := fun _ _ _ _ => by kernel_rfl
theorem law_10 : LW oa ob oc t nm A B C D I mod s x 10 := fun _ _ _ _ => by kernel_rfl
theorem law_11 : LW oa ob oc t nm A B C D I mod s x 11 := fun _ _ _ _ => by kernel_rfl
theorem law_12 : LW oa ob oc t nm A B C D I mod s x 12 := fun _ _ _ _ => by kernel_rfl
theorem law_13 : LW oa ob oc t nm A B C D I mod s x 13 := fun _ _ _ _ => by kernel_rfl
theorem law_14 : LW oa ob oc t nm A B C D I mod s x 14 := fun _ _ _ _ => by kernel_rfl
theorem law_15 : LW oa ob oc t nm A B C D I mod s x 15 := fun _ _ _ _ => by kernel_rfl
theorem law_16 : LW oa ob oc t nm A B C D I mod s x 16 := fun _ _ _ _ => by kernel_rfl
theorem law_17 : LW oa ob oc t nm A B C D I mod s x 17 := fun _ _ _ _ => by kernel_rfl
theorem law_18 : LW oa ob oc t nm A B C D I mod s x 18 := fun _ _ _ _ => by kernel_rfl
theorem law_19 : LW oa ob oc t nm A B C D I mod s x 19 := fun _ _ _ _ => by kernel_rfl
theorem law_20 : LW oa ob oc t nm A B C D I mod s x 20 := fun _ _ _ _ => by kernel_rfl
theorem law_21 : LW oa ob oc t nm A B C D I mod s x 21 := fun _ _ _ _ => by kernel_rfl
theorem law_22 : LW oa ob oc t nm A B C D I mod s x 22 := fun _ _ _ _ => by kernel_rfl
theorem law_23 : LW oa ob oc t nm A B C D I mod s x 23 := fun _ _ _ _ => by kernel_rfl
theorem law_24 : LW oa ob oc t nm A B C D I mod s x 24 := fun _ _ _ _ => by kernel_rfl
theorem law_25 : LW oa ob oc t nm A B C D I mod s x 25 := fun _ _ _ _ => by kernel_rfl
theorem law_26 : LW oa ob oc t nm A B C D I mod s x 26 := fun _ _ _ _ => by kernel_rfl
theorem law_27 : LW oa ob oc t nm A B C D I mod s x 27 := fun _ _ _ _ => by kernel_rfl
theorem law_28 : LW oa ob oc t nm A B C D I mod s x 28 := fun _ _ _ _ => by kernel_rfl
theorem law_29 : LW oa ob oc t nm A B C D I mod s x 29 := fun _ _ _ _ => by kernel_rfl
theorem law_30 : LW oa ob oc t nm A B C D I mod s x 30 := fun _ _ _ _ => by kernel_rfl
theorem law_31 : LW oa ob oc t nm A B C D I mod s x 31 := fun _ _ _ _ => by kernel_rfl
theorem law_32 : LW oa ob oc t nm A B C D I mod s x 32 := fun _ _ _ _ => by kernel_rfl
theorem law_33 : LW oa ob oc t nm A B C D I mod s x 33 := fun _ _ _ _ => by kernel_rfl
theorem law_34 : LW oa ob oc t nm A B C D I mod s x 34 := fun _ _ _ _ => by kernel_rfl
theorem law_35 : LW oa ob oc t nm A B C D I mod s x 35 := fun _ _ _ _ => by kernel_rfl
theorem law_36 : LW oa ob oc t nm A B C D I mod s x 36 := fun _ _ _ _ => by kernel_rfl
theorem law_37 : LW oa ob oc t nm A B C D I mod s x 37 := fun _ _ _ _ => by kernel_rfl
theorem law_38 : LW oa ob oc t nm A B C D I mod s x 38 := fun _ _ _ _ => by kernel_rfl
theorem law_39 : LW oa ob oc t nm A B C D I mod s x 39 := fun _ _ _ _ => by kernel_rfl
theorem law_40 : LW oa ob oc t nm A B C D I mod s x 40 := fun _ _ _ _ => by kernel_rfl
theorem law_41 : LW oa ob oc t nm A B C D I mod s x 41 := fun _ _ _ _ => by kernel_rfl
theorem law_42 : LW oa ob oc t nm A B C D I mod s x 42 := fun _ _ _ _ => by kernel_rfl
theorem law_43 : LW oa ob oc t nm A B C D I mod s x 43 := fun _ _ _ _ => by kernel_rfl
theorem law_44 : LW oa ob oc t nm A B C D I mod s x 44 := fun _ _ _ _ => by kernel_rfl
theorem law_45 : LW oa ob oc t nm A B C D I mod s x 45 := fun _ _ _ _ => by kernel_rfl
theorem law_46 : LW oa ob oc t nm A B C D I mod s x 46 := fun _ _ _ _ => by kernel_rfl
theorem law_47 : LW oa ob oc t nm A B C D I mod s x 47 := fun _ _ _ _ => by kernel_rfl
theorem law_48 : LW oa ob oc t nm A B C D I mod s x 48 := fun _ _ _ _ => by kernel_rfl
theorem law_49 : LW oa ob oc t nm A B C D I mod s x 49 := fun _ _ _ _ => by kernel_rfl
theorem law_50 : LW oa ob oc t nm A B C D I mod s x 50 := fun _ _ _ _ => by kernel_rfl
theorem law_51 : LW oa ob oc t nm A B C D I mod s x 51 := fun _ _ _ _ => by kernel_rfl
theorem law_52 : LW oa ob oc t nm A B C D I mod s x 52 := fun _ _ _ _ => by kernel_rfl
theorem law_53 : LW oa ob oc t nm A B C D I mod s x 53 := fun _ _ _ _ => by kernel_rfl
theorem law_54 : LW oa ob oc t nm A B C D I mod s x 54 := fun _ _ _ _ => by kernel_rfl
theorem law_55 : LW oa ob oc t nm A B C D I mod s x 55 := fun _ _ _ _ => by kernel_rfl
theorem law_56 : LW oa ob oc t nm A B C D I mod s x 56 := fun _ _ _ _ => by kernel_rfl
theorem law_57 : LW oa ob oc t nm A B C D I mod s x 57 := fun _ _ _ _ => by kernel_rfl
theorem law_58 : LW oa ob oc t nm A B C D I mod s x 58 := fun _ _ _ _ => by kernel_rfl
theorem law_59 : LW oa ob oc t nm A B C D I mod s x 59 := fun _ _ _ _ => by kernel_rfl
theorem law_60 : LW oa ob oc t nm A B C D I mod s x 60 := fun _ _ _ _ => by kernel_rfl
theorem law_all : ∀ n, n ≤ 60 → LW oa ob oc t nm A B C D I mod s x n
  | 0, _ => law_0 oa ob oc t nm A B C D I mod s x
  | 1, _ => law_1 oa ob oc t nm A B C D I mod s x
  | 2, _ => law_2 oa ob oc t nm A B C D I mod s x
  | 3, _ => law_3 oa ob oc t nm A B C D I mod s x
  | 4, _ => law_4 oa ob oc t nm A B C D I mod s x
  | 5, _ => law_5 oa ob oc t nm A B C D I mod s x
  | 6, _ => law_6 oa ob oc t nm A B C D I mod s x
  | 7, _ => law_7 oa ob oc t nm A B C D I mod s x
  | 8, _ => law_8 oa ob oc t nm A B C D I mod s x
  | 9, _ => law_9 oa ob oc t nm A B C D I mod s x
  | 10, _ => law_10 oa ob oc t nm A B C D I mod s x
  | 11, _ => law_11 oa ob oc t nm A B C D I mod s x
  | 12, _ => law_12 oa ob oc t nm A B C D I mod s x
  | 13, _ => law_13 oa ob oc t nm A B C D I mod s x
  | 14, _ => law_14 oa ob oc t nm A B C D I mod s x
  | 15, _ => law_15 oa ob oc t nm A B C D I mod s x
  | 16, _ => law_16 oa ob oc t nm A B C D I mod s x
  | 17, _ => law_17 oa ob oc t nm A B C D I mod s x
  | 18, _ => law_18 oa ob oc t nm A B C D I mod s x
  | 19, _ => law_19 oa ob oc t nm A B C D I mod s x
  | 20, _ => law_20 oa ob oc t nm A B C D I mod s x
  | 21, _ => law_21 oa ob oc t nm A B C D I mod s x
  | 22, _ => law_22 oa ob oc t nm A B C D I mod s x
  | 23, _ => law_23 oa ob oc t nm A B C D I mod s x
  | 24, _ => law_24 oa ob oc t nm A B C D I mod s x
  | 25, _ => law_25 oa ob oc t nm A B C D I mod s x
  | 26, _ => law_26 oa ob oc t nm A B C D I mod s x
  | 27, _ => law_27 oa ob oc t nm A B C D I mod s x
  | 28, _ => law_28 oa ob oc t nm A B C D I mod s x
  | 29, _ => law_29 oa ob oc t nm A B C D I mod s x
  | 30, _ => law_30 oa ob oc t nm A B C D I mod s x
  | 31, _ => law_31 oa ob oc t nm A B C D I mod s x
  | 32, _ => law_32 oa ob oc t nm A B C D I mod s x
  | 33, _ => law_33 oa ob oc t nm A B C D I mod s x
  | 34, _ => law_34 oa ob oc t nm A B C D I mod s x
  | 35, _ => law_35 oa ob oc t nm A B C D I mod s x
  | 36, _ => law_36 oa ob oc t nm A B C D I mod s x
  | 37, _ => law_37 oa ob oc t nm A B C D I mod s x
  | 38, _ => law_38 oa ob oc t nm A B C D I mod s x
  | 39, _ => law_39 oa ob oc t nm A B C D I mod s x
  | 40, _ => law_40 oa ob oc t nm A B C D I mod s x
  | 41, _ => law_41 oa ob oc t nm A B C D I mod s x
  | 42, _ => law_42 oa ob oc t nm A B C D I mod s x
  | 43, _ => law_43 oa ob oc t nm A B C D I mod s x
  | 44, _ => law_44 oa ob oc t nm A B C D I mod s x
  | 45, _ => law_45 oa ob oc t nm A B C D I mod s x
  | 46, _ => law_46 oa ob oc t nm A B C D I mod s x
  | 47, _ => law_47 oa ob oc t nm A B C D I mod s x
  | 48, _ => law_48 oa ob oc t nm A B C D I mod s x
  | 49, _ => law_49 oa ob oc t nm A B C D I mod s x
  | 50, _ => law_50 oa ob oc t nm A B C D I mod s x
  | 51, _ => law_51 oa ob oc t nm A B C D I mod s x
  | 52, _ => law_52 oa ob oc t nm A B C D I mod s x
  | 53, _ => law_53 oa ob oc t nm A B C D I mod s x
  | 54, _ => law_54 oa ob oc t nm A B C D I mod s x
  | 55, _ => law_55 oa ob oc t nm A B C D I mod s x
  | 56, _ => law_56 oa ob oc t nm A B C D I mod s x
  | 57, _ => law_57 oa ob oc t nm A B C D I mod s x
  | 58, _ => law_58 oa ob oc t nm A B C D I mod s x
  | 59, _ => law_59 oa ob oc t nm A B C D I mod s x
  | 60, _ => law_60 oa ob oc t nm A B C D I mod s x
  | n + 61, h => absurd h (by omega)
end
end
end Go.Proofs.YtbfdooplkdofeaaGreatDoor
