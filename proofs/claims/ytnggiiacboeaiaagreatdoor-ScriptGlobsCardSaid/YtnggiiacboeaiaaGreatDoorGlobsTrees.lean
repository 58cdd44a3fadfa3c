/- The pieces of foundrylaw21.ScriptGlobs, as trees. -/
import Derived.Test.YtnggiiacboeaiaaGreatDoorScriptEnv
import Derived.Test.YtnggiiacboeaiaaGreatDoorVaiFold
import Derived.KernelRfl
namespace Go.Proofs.YtnggiiacboeaiaaGreatDoor
open Go Go.Vai
noncomputable section
def fn5 : AFunc := (E3.fn 5).getD default
def SG : List Nat := [0, 1, 2, 7, 8]
def vG (a b c : List UInt8) (p : Bool) (i : Nat) : List AV := [.str a, .str b, .str c, .bool p, .int .i64 (.ofNat i)]
def kp8 : List Nat := [0, 1, 2, 3, 4, 5, 6, 7]
set_option maxRecDepth 100000
noncomputable def g0 (a b c : List UInt8) : Option Leaf := codesKK E3 cl3 ((flat fn5.body).take 7) (leafK 8 SG [0, 1, 2, 3, 4, 5, 6, 7]) (newFr fn5 [.str a, .str b, .str c]) (mkH 8 [])
noncomputable def g1 (a b c : List UInt8) : Option Leaf := codesKK E3 cl3 ((flat fn5.body).take 7) (leafK 8 [6] [0, 1, 2, 3, 4, 5, 6, 7]) (newFr fn5 [.str a, .str b, .str c]) (mkH 8 [])
noncomputable def g2 (a b c : List UInt8) (p : Bool) (i : Nat) : Option Leaf := codeKK E3 cl3 (codeAt [7, 0] fn5.body) (leafK 8 SG [0, 1, 2, 3, 4, 5, 6, 7]) (mkFr 90 SG (vG a b c p i)) (mkH 8 [])
noncomputable def g3 (a b c : List UInt8) (p : Bool) (i : Nat) : Option Leaf := codesKK E3 cl3 ((flat fn5.body).drop 8) (leafK 8 [6] [0, 1, 2, 3, 4, 5, 6, 7]) (mkFr 90 SG (vG a b c p i)) (mkH 8 [])

theorem g0_eq (a b c : List UInt8) : g0 a b c = bc (Nat.blt 100 (lenU a)) (lf (.ret) 90 [some (.str a), some (.str b), some (.str c), none, none] []) (bc (Nat.blt 100 (lenU b)) (lf (.ret) 90 [some (.str a), some (.str b), some (.str c), none, none] []) (bc (Nat.blt 100 (lenU c)) (lf (.ret) 90 [some (.str a), some (.str b), some (.str c), none, none] []) (lf (.normal) 90 [some (.str a), some (.str b), some (.str c), some (.bool true), some (.int .i64 (Int.ofNat 0))] []))) := by kernel_rfl
theorem g1_eq (a b c : List UInt8) : g1 a b c = bc (Nat.blt 100 (lenU a)) (lf (.ret) 90 [some (.bool true)] []) (bc (Nat.blt 100 (lenU b)) (lf (.ret) 90 [some (.bool true)] []) (bc (Nat.blt 100 (lenU c)) (lf (.ret) 90 [some (.bool true)] []) (lf (.normal) 90 [some (.bool false)] []))) := by kernel_rfl
theorem g2_eq (a b c : List UInt8) (p : Bool) (i : Nat) : g2 a b c p i = bc (Nat.blt i (lenU a)) (bc p (bc (i.blt (lenU a)) (bc (!ieq (Int.ofNat (byteAt a i).toNat) (Int.ofNat 42)) (bc (i.blt (lenU a)) (lf (.normal) 90 [some (.str a), some (.str b), some (.str c), some (.bool !ieq (Int.ofNat (byteAt a i).toNat) (Int.ofNat 63)), some (.int .i64 (up i))] []) none) (lf (.normal) 90 [some (.str a), some (.str b), some (.str c), some (.bool false), some (.int .i64 (up i))] [])) none) (lf (.normal) 90 [some (.str a), some (.str b), some (.str c), some (.bool false), some (.int .i64 (up i))] [])) (lf (.exit 0) 90 [some (.str a), some (.str b), some (.str c), some (.bool p), some (.int .i64 (Int.ofNat i))] []) := by kernel_rfl
theorem g3_eq (a b c : List UInt8) (p : Bool) (i : Nat) : g3 a b c p i = bc (!p) (bc ((lenU a).blt 100000) (lf (.ret) 90 [some (.bool (matchB [42] a))] []) none) (bc ((lenU a).blt 100000) (bc (matchB [42] a) (bc ((lenU a).blt 100000) (bc ((lenU a).ble 100000) (bc (matchB a a) (bc ((lenU a).succ.ble 1099511627776) (bc (((lenU a).add (lenU b)).ble 1099511627776) (bc ((lenU (a ++ b)).blt 100000) (bc ((lenU (a ++ [42])).ble 100000) (bc (matchB (a ++ [42]) (a ++ b)) (bc ((Nat.add 1 (lenU a)).ble 1099511627776) (bc (((lenU b).add (lenU a)).ble 1099511627776) (bc ((lenU (b ++ a)).blt 100000) (bc ((lenU ([42] ++ a)).ble 100000) (bc (matchB ([42] ++ a) (b ++ a)) (bc ((Nat.add 1 (lenU a)).ble 1099511627776) (bc (((lenU ([42] ++ a)).add 1).ble 1099511627776) (bc (((lenU b).add (lenU a)).ble 1099511627776) (bc (((lenU (b ++ a)).add (lenU c)).ble 1099511627776) (bc ((lenU (b ++ a ++ c)).blt 100000) (bc ((lenU ([42] ++ a ++ [42])).ble 100000) (bc (matchB ([42] ++ a ++ [42]) (b ++ a ++ c)) (bc ((lenU b).blt 100000) (bc ((lenU a).ble 100000) (lf (.ret) 90 [some (.bool (Decidable.decide (matchB a b = leq a b)))] []) none) none) (lf (.ret) 90 [some (.bool false)] [])) none) none) none) none) none) none) (lf (.ret) 90 [some (.bool false)] [])) none) none) none) none) (lf (.ret) 90 [some (.bool false)] [])) none) none) none) none) (lf (.ret) 90 [some (.bool false)] [])) none) none) (lf (.ret) 90 [some (.bool false)] [])) none) := by kernel_rfl
theorem flat5 : flat fn5.body = (flat fn5.body).take 7 ++ .block 0 (.loop (codeAt [7, 0] fn5.body)) :: (flat fn5.body).drop 8 := by kernel_rfl
theorem fn5_eq : E3.fn 5 = some fn5 := by kernel_rfl
end
end Go.Proofs.YtnggiiacboeaiaaGreatDoor
