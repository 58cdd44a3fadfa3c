/- Operands of instructions: what they need, and their texts. -/
import Derived.Test.YtlclahpapabkdaaGreatDoorTxF
import Derived.Test.YtlclahpapabkdaaGreatDoorTxName
import Derived.Test.YtlclahpapabkdaaGreatDoorVaiNum
import Derived.KernelRfl
namespace Go.Proofs.YtlclahpapabkdaaGreatDoor
open Go Go.Vai
noncomputable section
set_option maxRecDepth 100000
def gds (gs : List Bool) (x : Option AV) : Option AV := List.rec (motive := fun _ => Option AV) x (fun g _ ih => bc g ih none) gs
def txB (s : List UInt8) (ps : List (List UInt8)) (gs : List Bool) : Option AV := gds gs (bc (shortL ps) (bc (Nat.ble (Nat.add (lenU s) (lenU (joinV ps [44, 32]))) 1099511627776) (some (.tup [.str (s ++ joinV ps [44, 32]), .int .i64 (.ofNat 0)])) none) none)
def txE (e : Int) (x : Option AV) : Option AV := bc (!(ieq e (.ofNat 0))) (some (.tup [.str [], .int .i64 e])) x
abbrev EvT := Int → List UInt8 → Int → Int → Int → Int → Int → Int
def cv1 (D : Int) : List UInt8 := bc (ieq D (.ofNat 0)) [111] (bc (ieq D (.ofNat 1)) [110, 111] (bc (ieq D (.ofNat 2)) [98] (bc (ieq D (.ofNat 3)) [97, 101] (bc (ieq D (.ofNat 4)) [101] (bc (ieq D (.ofNat 5)) [110, 101] (bc (ieq D (.ofNat 6)) [98, 101] (bc (ieq D (.ofNat 7)) [97] (bc (ieq D (.ofNat 8)) [115] (bc (ieq D (.ofNat 9)) [110, 115] (bc (ieq D (.ofNat 10)) [] (bc (ieq D (.ofNat 11)) [] (bc (ieq D (.ofNat 12)) [108] (bc (ieq D (.ofNat 13)) [103, 101] (bc (ieq D (.ofNat 14)) [108, 101] (bc (ieq D (.ofNat 15)) [103] ([]))))))))))))))))
def cv2 (D : Int) : List UInt8 := bc (ieq D (.ofNat 0)) [101, 113] (bc (ieq D (.ofNat 1)) [110, 101] (bc (ieq D (.ofNat 2)) [99, 115] (bc (ieq D (.ofNat 3)) [99, 99] (bc (ieq D (.ofNat 4)) [109, 105] (bc (ieq D (.ofNat 5)) [112, 108] (bc (ieq D (.ofNat 6)) [118, 115] (bc (ieq D (.ofNat 7)) [118, 99] (bc (ieq D (.ofNat 8)) [104, 105] (bc (ieq D (.ofNat 9)) [108, 115] (bc (ieq D (.ofNat 10)) [103, 101] (bc (ieq D (.ofNat 11)) [108, 116] (bc (ieq D (.ofNat 12)) [103, 116] (bc (ieq D (.ofNat 13)) [108, 101] ([]))))))))))))))
def ok0 (A B C D I : Int) : Prop := A = 0 ∧ B = 0 ∧ C = 0 ∧ D = 0 ∧ I = 0
def pt0 (_nv : Int → Int → List UInt8) (_A _B _C _D _I : Int) : List (List UInt8) := []
def ok1 (A B C D I : Int) : Prop := (0 ≤ A ∧ A ≤ 15) ∧ B = 0 ∧ C = 0 ∧ D = 0 ∧ I = 0
def pt1 (nv : Int → Int → List UInt8) (A _B _C _D _I : Int) : List (List UInt8) := [nv (.ofNat 1) A]
def ok2 (A B C D I : Int) : Prop := (0 ≤ A ∧ A ≤ 15) ∧ (0 ≤ B ∧ B ≤ 15) ∧ C = 0 ∧ D = 0 ∧ I = 0
def pt2 (nv : Int → Int → List UInt8) (A B _C _D _I : Int) : List (List UInt8) := [nv (.ofNat 1) A, nv (.ofNat 1) B]
def ok3 (A B C D I : Int) : Prop := (0 ≤ A ∧ A ≤ 15) ∧ (0 ≤ B ∧ B ≤ 15) ∧ C = 0 ∧ (0 ≤ D ∧ D ≤ 9 ∨ 12 ≤ D ∧ D ≤ 15) ∧ I = 0
def pt3 (nv : Int → Int → List UInt8) (A B _C D _I : Int) : List (List UInt8) := [nv (.ofNat 1) A, nv (.ofNat 1) B, cv1 D]
def ok4 (A B C D _I : Int) : Prop := (0 ≤ A ∧ A ≤ 15) ∧ B = 0 ∧ C = 0 ∧ D = 0
def pt4 (nv : Int → Int → List UInt8) (A _B _C _D I : Int) : List (List UInt8) := [nv (.ofNat 1) A, Lib.itoa I]
def ok5 (A B C _D _I : Int) : Prop := (0 ≤ A ∧ A ≤ 15) ∧ (0 ≤ B ∧ B ≤ 15 ∨ B = 17) ∧ (0 ≤ C ∧ C ≤ 16)
def pt5 (nv : Int → Int → List UInt8) (A B C D I : Int) : List (List UInt8) := [nv (.ofNat 1) A, bc (ieq B (.ofNat 17)) [114, 105, 112] (nv (.ofNat 1) B), bc (ieq C (.ofNat 16)) [110, 111, 110, 101] (nv (.ofNat 1) C), Lib.itoa D, Lib.itoa I]
def ok6 (A B C D _I : Int) : Prop := A = 0 ∧ B = 0 ∧ C = 0 ∧ (0 ≤ D ∧ D ≤ 9 ∨ 12 ≤ D ∧ D ≤ 15)
def pt6 (_nv : Int → Int → List UInt8) (_A _B _C D I : Int) : List (List UInt8) := [cv1 D, Lib.itoa I]
def ok7 (A B C D _I : Int) : Prop := A = 0 ∧ B = 0 ∧ C = 0 ∧ D = 0
def pt7 (_nv : Int → Int → List UInt8) (_A _B _C _D I : Int) : List (List UInt8) := [Lib.itoa I]
def ok8 (A B C D I : Int) : Prop := A = 0 ∧ B = 0 ∧ C = 0 ∧ D = 0 ∧ I = 0
def pt8 (_nv : Int → Int → List UInt8) (_A _B _C _D _I : Int) : List (List UInt8) := []
def ok9 (A B C D I : Int) : Prop := (0 ≤ A ∧ A ≤ 31) ∧ (0 ≤ B ∧ B ≤ 31) ∧ (0 ≤ C ∧ C ≤ 31) ∧ D = 0 ∧ I = 0
def pt9 (nv : Int → Int → List UInt8) (A B C _D _I : Int) : List (List UInt8) := [nv (.ofNat 2) A, nv (.ofNat 2) B, nv (.ofNat 2) C]
def ok10 (A B C D I : Int) : Prop := (0 ≤ A ∧ A ≤ 31) ∧ (0 ≤ B ∧ B ≤ 31) ∧ (0 ≤ C ∧ C ≤ 31) ∧ (0 ≤ D ∧ D ≤ 31) ∧ I = 0
def pt10 (nv : Int → Int → List UInt8) (A B C D _I : Int) : List (List UInt8) := [nv (.ofNat 2) A, nv (.ofNat 2) B, nv (.ofNat 2) C, nv (.ofNat 2) D]
def ok11 (A B C D I : Int) : Prop := (0 ≤ A ∧ A ≤ 31) ∧ (0 ≤ B ∧ B ≤ 31) ∧ (0 ≤ C ∧ C ≤ 31) ∧ (0 ≤ D ∧ D ≤ 13) ∧ I = 0
def pt11 (nv : Int → Int → List UInt8) (A B C D _I : Int) : List (List UInt8) := [nv (.ofNat 2) A, nv (.ofNat 2) B, nv (.ofNat 2) C, cv2 D]
def ok12 (A B C _D I : Int) : Prop := (0 ≤ A ∧ A ≤ 31) ∧ (0 ≤ B ∧ B ≤ 31) ∧ (0 ≤ C ∧ C ≤ 31) ∧ I = 0
def pt12 (nv : Int → Int → List UInt8) (A B C D _I : Int) : List (List UInt8) := [nv (.ofNat 2) A, nv (.ofNat 2) B, nv (.ofNat 2) C, Lib.itoa D]
def ok13 (A B C D _I : Int) : Prop := (0 ≤ A ∧ A ≤ 31) ∧ (0 ≤ B ∧ B ≤ 31) ∧ C = 0 ∧ D = 0
def pt13 (nv : Int → Int → List UInt8) (A B _C _D I : Int) : List (List UInt8) := [nv (.ofNat 2) A, nv (.ofNat 2) B, Lib.itoa I]
def ok14 (A B C _D _I : Int) : Prop := (0 ≤ A ∧ A ≤ 31) ∧ (0 ≤ B ∧ B ≤ 31) ∧ C = 0
def pt14 (nv : Int → Int → List UInt8) (A B _C D I : Int) : List (List UInt8) := [nv (.ofNat 2) A, nv (.ofNat 2) B, Lib.itoa I, Lib.itoa D]
def ok15 (A B _C _D I : Int) : Prop := (0 ≤ A ∧ A ≤ 31) ∧ (0 ≤ B ∧ B ≤ 31) ∧ I = 0
def pt15 (nv : Int → Int → List UInt8) (A B C D _I : Int) : List (List UInt8) := [nv (.ofNat 2) A, nv (.ofNat 2) B, Lib.itoa C, Lib.itoa D]
def ok16 (A B C D _I : Int) : Prop := (0 ≤ A ∧ A ≤ 31) ∧ (0 ≤ B ∧ B ≤ 31) ∧ (0 ≤ C ∧ C ≤ 31) ∧ D = 0
def pt16 (nv : Int → Int → List UInt8) (A B C _D I : Int) : List (List UInt8) := [nv (.ofNat 2) A, nv (.ofNat 2) C, nv (.ofNat 2) B, Lib.itoa I]
def ok17 (A B C D _I : Int) : Prop := (0 ≤ A ∧ A ≤ 31) ∧ B = 0 ∧ C = 0 ∧ D = 0
def pt17 (nv : Int → Int → List UInt8) (A _B _C _D I : Int) : List (List UInt8) := [nv (.ofNat 2) A, Lib.itoa I]
def ok18 (A B C _D _I : Int) : Prop := (0 ≤ A ∧ A ≤ 31) ∧ B = 0 ∧ C = 0
def pt18 (nv : Int → Int → List UInt8) (A _B _C D I : Int) : List (List UInt8) := [nv (.ofNat 2) A, Lib.itoa I, Lib.itoa D]
def ok19 (A B C D I : Int) : Prop := A = 0 ∧ (0 ≤ B ∧ B ≤ 31) ∧ C = 0 ∧ D = 0 ∧ I = 0
def pt19 (nv : Int → Int → List UInt8) (_A B _C _D _I : Int) : List (List UInt8) := [nv (.ofNat 2) B]
def ok20 (A B C D _I : Int) : Prop := A = 0 ∧ B = 0 ∧ C = 0 ∧ (0 ≤ D ∧ D ≤ 13)
def pt20 (_nv : Int → Int → List UInt8) (_A _B _C D I : Int) : List (List UInt8) := [cv2 D, Lib.itoa I]
def ok21 (A B C D _I : Int) : Prop := A = 0 ∧ B = 0 ∧ C = 0 ∧ D = 0
def pt21 (_nv : Int → Int → List UInt8) (_A _B _C _D I : Int) : List (List UInt8) := [Lib.itoa I]
def ok22 (A B C D I : Int) : Prop := A = 0 ∧ B = 0 ∧ C = 0 ∧ D = 0 ∧ I = 0
def pt22 (_nv : Int → Int → List UInt8) (_A _B _C _D _I : Int) : List (List UInt8) := []
def ok23 (A B C D I : Int) : Prop := (0 ≤ A ∧ A ≤ 31) ∧ (0 ≤ B ∧ B ≤ 31) ∧ (0 ≤ C ∧ C ≤ 31) ∧ D = 0 ∧ I = 0
def pt23 (nv : Int → Int → List UInt8) (A B C _D _I : Int) : List (List UInt8) := [nv (.ofNat 3) A, nv (.ofNat 3) B, nv (.ofNat 3) C]
def ok24 (A B C D _I : Int) : Prop := (0 ≤ A ∧ A ≤ 31) ∧ (0 ≤ B ∧ B ≤ 31) ∧ C = 0 ∧ D = 0
def pt24 (nv : Int → Int → List UInt8) (A B _C _D I : Int) : List (List UInt8) := [nv (.ofNat 3) A, nv (.ofNat 3) B, Lib.itoa I]
def ok25 (A B C D I : Int) : Prop := (0 ≤ A ∧ A ≤ 31) ∧ B = 0 ∧ (0 ≤ C ∧ C ≤ 31) ∧ D = 0 ∧ I = 0
def pt25 (nv : Int → Int → List UInt8) (A _B C _D _I : Int) : List (List UInt8) := [nv (.ofNat 3) A, nv (.ofNat 3) C]
def ok26 (A B C D _I : Int) : Prop := (0 ≤ A ∧ A ≤ 31) ∧ B = 0 ∧ C = 0 ∧ D = 0
def pt26 (nv : Int → Int → List UInt8) (A _B _C _D I : Int) : List (List UInt8) := [nv (.ofNat 3) A, Lib.itoa I]
def ok27 (A B C D I : Int) : Prop := A = 0 ∧ (0 ≤ B ∧ B ≤ 31) ∧ C = 0 ∧ D = 0 ∧ I = 0
def pt27 (nv : Int → Int → List UInt8) (_A B _C _D _I : Int) : List (List UInt8) := [nv (.ofNat 3) B]
def ok28 (A B C D _I : Int) : Prop := A = 0 ∧ (0 ≤ B ∧ B ≤ 31) ∧ (0 ≤ C ∧ C ≤ 31) ∧ D = 0
def pt28 (nv : Int → Int → List UInt8) (_A B C _D I : Int) : List (List UInt8) := [nv (.ofNat 3) B, nv (.ofNat 3) C, Lib.itoa I]
def ok29 (A B C D _I : Int) : Prop := A = 0 ∧ (0 ≤ B ∧ B ≤ 31) ∧ C = 0 ∧ D = 0
def pt29 (nv : Int → Int → List UInt8) (_A B _C _D I : Int) : List (List UInt8) := [nv (.ofNat 3) B, Lib.itoa I]
def ok30 (A B C D _I : Int) : Prop := A = 0 ∧ (0 ≤ B ∧ B ≤ 31) ∧ (0 ≤ C ∧ C ≤ 31) ∧ D = 0
def pt30 (nv : Int → Int → List UInt8) (_A B C _D I : Int) : List (List UInt8) := [nv (.ofNat 3) C, nv (.ofNat 3) B, Lib.itoa I]
def ok31 (A B C D _I : Int) : Prop := A = 0 ∧ B = 0 ∧ (0 ≤ C ∧ C ≤ 31) ∧ D = 0
def pt31 (nv : Int → Int → List UInt8) (_A _B C _D I : Int) : List (List UInt8) := [nv (.ofNat 3) C, Lib.itoa I]
def ok32 (A B C D _I : Int) : Prop := A = 0 ∧ B = 0 ∧ C = 0 ∧ D = 0
def pt32 (_nv : Int → Int → List UInt8) (_A _B _C _D I : Int) : List (List UInt8) := [Lib.itoa I]
def okC (c : Nat) (A B C D I : Int) : Prop := match c with
  | 0 => ok0 A B C D I
  | 1 => ok1 A B C D I
  | 2 => ok2 A B C D I
  | 3 => ok3 A B C D I
  | 4 => ok4 A B C D I
  | 5 => ok5 A B C D I
  | 6 => ok6 A B C D I
  | 7 => ok7 A B C D I
  | 8 => ok8 A B C D I
  | 9 => ok9 A B C D I
  | 10 => ok10 A B C D I
  | 11 => ok11 A B C D I
  | 12 => ok12 A B C D I
  | 13 => ok13 A B C D I
  | 14 => ok14 A B C D I
  | 15 => ok15 A B C D I
  | 16 => ok16 A B C D I
  | 17 => ok17 A B C D I
  | 18 => ok18 A B C D I
  | 19 => ok19 A B C D I
  | 20 => ok20 A B C D I
  | 21 => ok21 A B C D I
  | 22 => ok22 A B C D I
  | 23 => ok23 A B C D I
  | 24 => ok24 A B C D I
  | 25 => ok25 A B C D I
  | 26 => ok26 A B C D I
  | 27 => ok27 A B C D I
  | 28 => ok28 A B C D I
  | 29 => ok29 A B C D I
  | 30 => ok30 A B C D I
  | 31 => ok31 A B C D I
  | 32 => ok32 A B C D I
  | _ => False
def ptC (nv : Int → Int → List UInt8) (c : Nat) (A B C D I : Int) : List (List UInt8) := match c with
  | 0 => pt0 nv A B C D I
  | 1 => pt1 nv A B C D I
  | 2 => pt2 nv A B C D I
  | 3 => pt3 nv A B C D I
  | 4 => pt4 nv A B C D I
  | 5 => pt5 nv A B C D I
  | 6 => pt6 nv A B C D I
  | 7 => pt7 nv A B C D I
  | 8 => pt8 nv A B C D I
  | 9 => pt9 nv A B C D I
  | 10 => pt10 nv A B C D I
  | 11 => pt11 nv A B C D I
  | 12 => pt12 nv A B C D I
  | 13 => pt13 nv A B C D I
  | 14 => pt14 nv A B C D I
  | 15 => pt15 nv A B C D I
  | 16 => pt16 nv A B C D I
  | 17 => pt17 nv A B C D I
  | 18 => pt18 nv A B C D I
  | 19 => pt19 nv A B C D I
  | 20 => pt20 nv A B C D I
  | 21 => pt21 nv A B C D I
  | 22 => pt22 nv A B C D I
  | 23 => pt23 nv A B C D I
  | 24 => pt24 nv A B C D I
  | 25 => pt25 nv A B C D I
  | 26 => pt26 nv A B C D I
  | 27 => pt27 nv A B C D I
  | 28 => pt28 nv A B C D I
  | 29 => pt29 nv A B C D I
  | 30 => pt30 nv A B C D I
  | 31 => pt31 nv A B C D I
  | 32 => pt32 nv A B C D I
  | _ => []
def em0 (A B C D I : Int) : Int := bc (ieq D (.ofNat 0)) (ee50 A B C I) (bc (ieq D (.ofNat 1)) (ee51 A B C I) (bc (ieq D (.ofNat 2)) (ee51 A B C I) (bc (ieq D (.ofNat 4)) (ee51 A B C I) (bc (ieq D (.ofNat 8)) (ee51 A B C I) (.ofNat 13)))))
def em1 (A B C D I : Int) : Int := bc (ieq D (.ofNat 0)) (ee52 A B C I) (bc (ieq D (.ofNat 1)) (ee53 A B C I) (bc (ieq D (.ofNat 2)) (ee53 A B C I) (bc (ieq D (.ofNat 4)) (ee53 A B C I) (bc (ieq D (.ofNat 8)) (ee53 A B C I) (.ofNat 13)))))
theorem z3 : ((Int.ofNat 3) = 0) = False := by decide
theorem z0 : ((Int.ofNat 0) = 0) = True := by decide
def tr1 (ev : EvT) (nv : Int → Int → List UInt8) (nm : List UInt8) (A B C D I : Int) : Option AV := txE (ev (.ofNat 1) nm A B C D I) (txB (nm ++ [32]) (pt1 nv A B C D I) [])
def tr2 (ev : EvT) (nv : Int → Int → List UInt8) (nm : List UInt8) (A B C D I : Int) : Option AV := txE (ev (.ofNat 1) nm A B C D I) (txB (nm ++ [32]) (pt2 nv A B C D I) [])
def tr3 (ev : EvT) (nv : Int → Int → List UInt8) (nm : List UInt8) (A B C D I : Int) : Option AV := txE (ev (.ofNat 1) nm A B C D I) (txB (nm ++ [32]) (pt3 nv A B C D I) [])
def tr4 (ev : EvT) (nv : Int → Int → List UInt8) (nm : List UInt8) (A B C D I : Int) : Option AV := txE (ev (.ofNat 1) nm A B C D I) (txB (nm ++ [32]) (pt4 nv A B C D I) [i64In I])
def tr6 (ev : EvT) (nv : Int → Int → List UInt8) (nm : List UInt8) (A B C D I : Int) : Option AV := txE (ev (.ofNat 1) nm A B C D I) (txB (nm ++ [32]) (pt6 nv A B C D I) [i64In I])
def tr7 (ev : EvT) (nv : Int → Int → List UInt8) (nm : List UInt8) (A B C D I : Int) : Option AV := txE (ev (.ofNat 1) nm A B C D I) (txB (nm ++ [32]) (pt7 nv A B C D I) [i64In I])
def tr9 (ev : EvT) (nv : Int → Int → List UInt8) (nm : List UInt8) (A B C D I : Int) : Option AV := txE (ev (.ofNat 2) nm A B C D I) (txB (nm ++ [32]) (pt9 nv A B C D I) [])
def tr10 (ev : EvT) (nv : Int → Int → List UInt8) (nm : List UInt8) (A B C D I : Int) : Option AV := txE (ev (.ofNat 2) nm A B C D I) (txB (nm ++ [32]) (pt10 nv A B C D I) [])
def tr11 (ev : EvT) (nv : Int → Int → List UInt8) (nm : List UInt8) (A B C D I : Int) : Option AV := txE (ev (.ofNat 2) nm A B C D I) (txB (nm ++ [32]) (pt11 nv A B C D I) [])
def tr12 (ev : EvT) (nv : Int → Int → List UInt8) (nm : List UInt8) (A B C D I : Int) : Option AV := txE (ev (.ofNat 2) nm A B C D I) (txB (nm ++ [32]) (pt12 nv A B C D I) [i64In D])
def tr13 (ev : EvT) (nv : Int → Int → List UInt8) (nm : List UInt8) (A B C D I : Int) : Option AV := txE (ev (.ofNat 2) nm A B C D I) (txB (nm ++ [32]) (pt13 nv A B C D I) [i64In I])
def tr14 (ev : EvT) (nv : Int → Int → List UInt8) (nm : List UInt8) (A B C D I : Int) : Option AV := txE (ev (.ofNat 2) nm A B C D I) (txB (nm ++ [32]) (pt14 nv A B C D I) [i64In I, i64In D])
def tr15 (ev : EvT) (nv : Int → Int → List UInt8) (nm : List UInt8) (A B C D I : Int) : Option AV := txE (ev (.ofNat 2) nm A B C D I) (txB (nm ++ [32]) (pt15 nv A B C D I) [i64In C, i64In D])
def tr16 (ev : EvT) (nv : Int → Int → List UInt8) (nm : List UInt8) (A B C D I : Int) : Option AV := txE (ev (.ofNat 2) nm A B C D I) (txB (nm ++ [32]) (pt16 nv A B C D I) [i64In I])
def tr17 (ev : EvT) (nv : Int → Int → List UInt8) (nm : List UInt8) (A B C D I : Int) : Option AV := txE (ev (.ofNat 2) nm A B C D I) (txB (nm ++ [32]) (pt17 nv A B C D I) [i64In I])
def tr18 (ev : EvT) (nv : Int → Int → List UInt8) (nm : List UInt8) (A B C D I : Int) : Option AV := txE (ev (.ofNat 2) nm A B C D I) (txB (nm ++ [32]) (pt18 nv A B C D I) [i64In I, i64In D])
def tr19 (ev : EvT) (nv : Int → Int → List UInt8) (nm : List UInt8) (A B C D I : Int) : Option AV := txE (ev (.ofNat 2) nm A B C D I) (txB (nm ++ [32]) (pt19 nv A B C D I) [])
def tr20 (ev : EvT) (nv : Int → Int → List UInt8) (nm : List UInt8) (A B C D I : Int) : Option AV := txE (ev (.ofNat 2) nm A B C D I) (txB (nm ++ [32]) (pt20 nv A B C D I) [i64In I])
def tr21 (ev : EvT) (nv : Int → Int → List UInt8) (nm : List UInt8) (A B C D I : Int) : Option AV := txE (ev (.ofNat 2) nm A B C D I) (txB (nm ++ [32]) (pt21 nv A B C D I) [i64In I])
def tr23 (ev : EvT) (nv : Int → Int → List UInt8) (nm : List UInt8) (A B C D I : Int) : Option AV := txE (ev (.ofNat 3) nm A B C D I) (txB (nm ++ [32]) (pt23 nv A B C D I) [])
def tr24 (ev : EvT) (nv : Int → Int → List UInt8) (nm : List UInt8) (A B C D I : Int) : Option AV := txE (ev (.ofNat 3) nm A B C D I) (txB (nm ++ [32]) (pt24 nv A B C D I) [i64In I])
def tr25 (ev : EvT) (nv : Int → Int → List UInt8) (nm : List UInt8) (A B C D I : Int) : Option AV := txE (ev (.ofNat 3) nm A B C D I) (txB (nm ++ [32]) (pt25 nv A B C D I) [])
def tr26 (ev : EvT) (nv : Int → Int → List UInt8) (nm : List UInt8) (A B C D I : Int) : Option AV := txE (ev (.ofNat 3) nm A B C D I) (txB (nm ++ [32]) (pt26 nv A B C D I) [i64In I])
def tr27 (ev : EvT) (nv : Int → Int → List UInt8) (nm : List UInt8) (A B C D I : Int) : Option AV := txE (ev (.ofNat 3) nm A B C D I) (txB (nm ++ [32]) (pt27 nv A B C D I) [])
def tr28 (ev : EvT) (nv : Int → Int → List UInt8) (nm : List UInt8) (A B C D I : Int) : Option AV := txE (ev (.ofNat 3) nm A B C D I) (txB (nm ++ [32]) (pt28 nv A B C D I) [i64In I])
def tr29 (ev : EvT) (nv : Int → Int → List UInt8) (nm : List UInt8) (A B C D I : Int) : Option AV := txE (ev (.ofNat 3) nm A B C D I) (txB (nm ++ [32]) (pt29 nv A B C D I) [i64In I])
def tr30 (ev : EvT) (nv : Int → Int → List UInt8) (nm : List UInt8) (A B C D I : Int) : Option AV := txE (ev (.ofNat 3) nm A B C D I) (txB (nm ++ [32]) (pt30 nv A B C D I) [i64In I])
def tr31 (ev : EvT) (nv : Int → Int → List UInt8) (nm : List UInt8) (A B C D I : Int) : Option AV := txE (ev (.ofNat 3) nm A B C D I) (txB (nm ++ [32]) (pt31 nv A B C D I) [i64In I])
def tr32 (ev : EvT) (nv : Int → Int → List UInt8) (nm : List UInt8) (A B C D I : Int) : Option AV := txE (ev (.ofNat 3) nm A B C D I) (txB (nm ++ [32]) (pt32 nv A B C D I) [i64In I])
end
end Go.Proofs.YtlclahpapabkdaaGreatDoor
