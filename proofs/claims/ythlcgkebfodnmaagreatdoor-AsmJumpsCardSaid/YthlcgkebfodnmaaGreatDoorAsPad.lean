/- asm.pad and asm.padding as summaries. -/
import Derived.Test.YthlcgkebfodnmaaGreatDoorAsEnc
namespace Go.Proofs.YthlcgkebfodnmaaGreatDoor
open Go Go.Vai
noncomputable section
set_option maxRecDepth 100000
theorem bcT {α : Type} {c : Bool} {x y : α} (h : c = true) : bc c x y = x := by rw [h]; rfl
theorem bcF {α : Type} {c : Bool} {x y : α} (h : c = false) : bc c x y = y := by rw [h]; rfl
theorem sub_nat {n q : Nat} (h : q ≤ n) : Int.sub (.ofNat n) (.ofNat q) = .ofNat (n - q) := by show (n : Int) - (q : Int) = ((n - q : Nat) : Int); omega
def nopL (t : Nat) : List UInt8 := bif Nat.beq t 1 then [144] else bif Nat.beq t 2 then [31, 32, 3, 213] else [1, 0]
def npV (t : Nat) : AV := bif Nat.beq t 1 then .sl 14 0 1 none else bif Nat.beq t 2 then .sl 14 0 4 (some 4) else .sl 14 0 2 (some 2)
def npO (t : Nat) : AObj := bif Nat.beq t 1 then .cells 1 (Tr.nil.putAll 0 [.int .u8 (.ofNat 144)]) 5 (some 1) 0 false false else bif Nat.beq t 2 then .cells 4 (Tr.nil.putAll 0 [.int .u8 (.ofNat 31), .int .u8 (.ofNat 32), .int .u8 (.ofNat 3), .int .u8 (.ofNat 213)]) 5 none 0 false false else .cells 2 (Tr.nil.putAll 0 [.int .u8 (.ofNat 1), .int .u8 (.ofNat 0)]) 5 none 0 false false
def flO (x : Bool) : List UInt8 := bif x then [97, 120] else [97, 119]
def pvO (x : Bool) (nm : List UInt8) : AObj := .cells 6 (Tr.nil.putAll 0 [.str nm, .str (flO x)]) 0 none 0 true false
def mvO (t : Nat) : AObj := .cells 11 (Tr.nil.putAll 0 [.int .i64 (.ofNat t)]) 0 none 0 true false
def bRo (n : Nat) (T : Tr AV) : AObj := .cells n T 5 none 0 false false
def EPd : Env := envOf Tryz.prog 12 [29, 127] (orSm (extSm kinds) (orSm (contSm 127) (orSm (closedSmA encD1) (orSm (closedSmA encD2) (closedSmA encD3)))))
theorem epd_ok (w : World) (hw : GlobOk gl w) : EnvOk EPd Tryz.prog (Kept gl w) := envOk_sm (by kernel_rfl) ((smOk_ext ext_ok).or (cont_ok1.or (encD1_ok.or (encD2_ok.or encD3_ok)))) mixed_ok (fun _ _ _ h => h.1) (kept_carried hw).ext
def fn86 : AFunc := (EPd.fn 86).getD default
theorem fn86_eq : EPd.fn 86 = some fn86 := by kernel_rfl
theorem fn86_flat : flat fn86.body = (flat fn86.body).take 3 ++ .block 0 (.loop (codeAt [3, 0] fn86.body)) :: (flat fn86.body).drop 4 := by kernel_rfl
def pdS : List Nat := [1, 2, 3, 9, 10]
def pdV (t a n q : Nat) : List AV := [.ptr 12 0, .int .i64 (.ofNat a), .int .i64 (.ofNat n), .sl 13 0 q (some n), npV t]
def pdO (t : Nat) (x : Bool) (nm : List UInt8) (n : Nat) (T : Tr AV) : List AObj := [pvO x nm, bRo n T, npO t]
theorem pb1x_eq (a n q : Nat) (T : Tr AV) (nm : List UInt8) : codesKK EPd (callKK EPd 9) (flat (codeAt [3, 0] fn86.body)) (leafK 12 [1, 2, 3, 9, 10] [0, 1, 2, 3, 4, 5, 6, 7, 8, 9, 10, 11, 12, 13, 14]) (mkFr 47 [1, 2, 3, 9, 10] [.ptr 12 0, .int .i64 (.ofNat a), .int .i64 (.ofNat n), .sl 13 0 q (some n), npV 1]) (mkH 12 [pvO true nm, .cells n T 5 none 0 false false, npO 1]) = bc (Nat.blt q n) (bc (ieq (Int.tmod (wrapR .i64 (.ofNat (Nat.add a q))) (.ofNat 1)) (.ofNat 0)) (bc (!(ilt (wrapR .i64 (Int.sub (.ofNat n) (.ofNat q))) (.ofNat 1))) (bc (Nat.ble (Nat.succ q) n) (bc (Nat.ble (Nat.add 0 (Nat.mul (Nat.succ q) 1)) n) (lf .normal 47 ([.ptr 12 0, .int .i64 (.ofNat a), .int .i64 (.ofNat n), .sl 13 0 (Nat.succ q) (some n), npV 1].map some) ([pvO true nm, .cells n (Tr.putAll T (Nat.add 0 (Nat.mul q 1)) [.int .u8 (.ofNat 144)]) 5 none 0 false false, npO 1].map some)) (none)) (bc (roomy (Nat.succ q) 1) (bc (hasA T 0 (Nat.mul q 1)) (lf .normal 47 [some (.ptr 12 0), some (.int .i64 (.ofNat a)), some (.int .i64 (.ofNat n)), none, some (npV 1)] ([pvO true nm, .cells n T 5 none 0 false false, npO 1].map some)) (none)) (none))) (bc (Nat.ble (Nat.succ q) n) (bc (Nat.ble (Nat.add 0 (Nat.mul (Nat.succ q) 1)) n) (lf .normal 47 ([.ptr 12 0, .int .i64 (.ofNat a), .int .i64 (.ofNat n), .sl 13 0 (Nat.succ q) (some n), npV 1].map some) ([pvO true nm, .cells n (Tr.putAll T (Nat.add 0 (Nat.mul q 1)) [.int .u8 (.ofNat 0)]) 5 none 0 false false, npO 1].map some)) (none)) (bc (roomy (Nat.succ q) 1) (bc (hasA T 0 (Nat.mul q 1)) (lf .normal 47 [some (.ptr 12 0), some (.int .i64 (.ofNat a)), some (.int .i64 (.ofNat n)), none, some (npV 1)] ([pvO true nm, .cells n T 5 none 0 false false, npO 1].map some)) (none)) (none)))) (bc (Nat.ble (Nat.succ q) n) (bc (Nat.ble (Nat.add 0 (Nat.mul (Nat.succ q) 1)) n) (lf .normal 47 ([.ptr 12 0, .int .i64 (.ofNat a), .int .i64 (.ofNat n), .sl 13 0 (Nat.succ q) (some n), npV 1].map some) ([pvO true nm, .cells n (Tr.putAll T (Nat.add 0 (Nat.mul q 1)) [.int .u8 (.ofNat 0)]) 5 none 0 false false, npO 1].map some)) (none)) (bc (roomy (Nat.succ q) 1) (bc (hasA T 0 (Nat.mul q 1)) (lf .normal 47 [some (.ptr 12 0), some (.int .i64 (.ofNat a)), some (.int .i64 (.ofNat n)), none, some (npV 1)] ([pvO true nm, .cells n T 5 none 0 false false, npO 1].map some)) (none)) (none)))) (lf (.exit 0) 47 ([.ptr 12 0, .int .i64 (.ofNat a), .int .i64 (.ofNat n), .sl 13 0 q (some n), npV 1].map some) ([pvO true nm, .cells n T 5 none 0 false false, npO 1].map some)) := by kernel_rfl
theorem pb1w_eq (a n q : Nat) (T : Tr AV) (nm : List UInt8) : codesKK EPd (callKK EPd 9) (flat (codeAt [3, 0] fn86.body)) (leafK 12 [1, 2, 3, 9, 10] [0, 1, 2, 3, 4, 5, 6, 7, 8, 9, 10, 11, 12, 13, 14]) (mkFr 47 [1, 2, 3, 9, 10] [.ptr 12 0, .int .i64 (.ofNat a), .int .i64 (.ofNat n), .sl 13 0 q (some n), npV 1]) (mkH 12 [pvO false nm, .cells n T 5 none 0 false false, npO 1]) = bc (Nat.blt q n) (bc (Nat.ble (Nat.succ q) n) (bc (Nat.ble (Nat.add 0 (Nat.mul (Nat.succ q) 1)) n) (lf .normal 47 ([.ptr 12 0, .int .i64 (.ofNat a), .int .i64 (.ofNat n), .sl 13 0 (Nat.succ q) (some n), npV 1].map some) ([pvO false nm, .cells n (Tr.putAll T (Nat.add 0 (Nat.mul q 1)) [.int .u8 (.ofNat 0)]) 5 none 0 false false, npO 1].map some)) (none)) (bc (roomy (Nat.succ q) 1) (bc (hasA T 0 (Nat.mul q 1)) (lf .normal 47 [some (.ptr 12 0), some (.int .i64 (.ofNat a)), some (.int .i64 (.ofNat n)), none, some (npV 1)] ([pvO false nm, .cells n T 5 none 0 false false, npO 1].map some)) (none)) (none))) (lf (.exit 0) 47 ([.ptr 12 0, .int .i64 (.ofNat a), .int .i64 (.ofNat n), .sl 13 0 q (some n), npV 1].map some) ([pvO false nm, .cells n T 5 none 0 false false, npO 1].map some)) := by kernel_rfl
theorem pb2x_eq (a n q : Nat) (T : Tr AV) (nm : List UInt8) : codesKK EPd (callKK EPd 9) (flat (codeAt [3, 0] fn86.body)) (leafK 12 [1, 2, 3, 9, 10] [0, 1, 2, 3, 4, 5, 6, 7, 8, 9, 10, 11, 12, 13, 14]) (mkFr 47 [1, 2, 3, 9, 10] [.ptr 12 0, .int .i64 (.ofNat a), .int .i64 (.ofNat n), .sl 13 0 q (some n), npV 2]) (mkH 12 [pvO true nm, .cells n T 5 none 0 false false, npO 2]) = bc (Nat.blt q n) (bc (ieq (Int.tmod (wrapR .i64 (.ofNat (Nat.add a q))) (.ofNat 4)) (.ofNat 0)) (bc (!(ilt (wrapR .i64 (Int.sub (.ofNat n) (.ofNat q))) (.ofNat 4))) (bc (Nat.ble (Nat.add q 4) n) (bc (Nat.ble (Nat.add 0 (Nat.mul (Nat.add q 4) 1)) n) (lf .normal 47 ([.ptr 12 0, .int .i64 (.ofNat a), .int .i64 (.ofNat n), .sl 13 0 (Nat.add q 4) (some n), npV 2].map some) ([pvO true nm, .cells n (Tr.putAll T (Nat.add 0 (Nat.mul q 1)) ((nopL 2).map byteAV)) 5 none 0 false false, npO 2].map some)) (none)) (bc (roomy (Nat.add q 4) 1) (bc (hasA T 0 (Nat.mul q 1)) (lf .normal 47 [some (.ptr 12 0), some (.int .i64 (.ofNat a)), some (.int .i64 (.ofNat n)), none, some (npV 2)] ([pvO true nm, .cells n T 5 none 0 false false, npO 2].map some)) (none)) (none))) (bc (Nat.ble (Nat.succ q) n) (bc (Nat.ble (Nat.add 0 (Nat.mul (Nat.succ q) 1)) n) (lf .normal 47 ([.ptr 12 0, .int .i64 (.ofNat a), .int .i64 (.ofNat n), .sl 13 0 (Nat.succ q) (some n), npV 2].map some) ([pvO true nm, .cells n (Tr.putAll T (Nat.add 0 (Nat.mul q 1)) [.int .u8 (.ofNat 0)]) 5 none 0 false false, npO 2].map some)) (none)) (bc (roomy (Nat.succ q) 1) (bc (hasA T 0 (Nat.mul q 1)) (lf .normal 47 [some (.ptr 12 0), some (.int .i64 (.ofNat a)), some (.int .i64 (.ofNat n)), none, some (npV 2)] ([pvO true nm, .cells n T 5 none 0 false false, npO 2].map some)) (none)) (none)))) (bc (Nat.ble (Nat.succ q) n) (bc (Nat.ble (Nat.add 0 (Nat.mul (Nat.succ q) 1)) n) (lf .normal 47 ([.ptr 12 0, .int .i64 (.ofNat a), .int .i64 (.ofNat n), .sl 13 0 (Nat.succ q) (some n), npV 2].map some) ([pvO true nm, .cells n (Tr.putAll T (Nat.add 0 (Nat.mul q 1)) [.int .u8 (.ofNat 0)]) 5 none 0 false false, npO 2].map some)) (none)) (bc (roomy (Nat.succ q) 1) (bc (hasA T 0 (Nat.mul q 1)) (lf .normal 47 [some (.ptr 12 0), some (.int .i64 (.ofNat a)), some (.int .i64 (.ofNat n)), none, some (npV 2)] ([pvO true nm, .cells n T 5 none 0 false false, npO 2].map some)) (none)) (none)))) (lf (.exit 0) 47 ([.ptr 12 0, .int .i64 (.ofNat a), .int .i64 (.ofNat n), .sl 13 0 q (some n), npV 2].map some) ([pvO true nm, .cells n T 5 none 0 false false, npO 2].map some)) := by kernel_rfl
theorem pb2w_eq (a n q : Nat) (T : Tr AV) (nm : List UInt8) : codesKK EPd (callKK EPd 9) (flat (codeAt [3, 0] fn86.body)) (leafK 12 [1, 2, 3, 9, 10] [0, 1, 2, 3, 4, 5, 6, 7, 8, 9, 10, 11, 12, 13, 14]) (mkFr 47 [1, 2, 3, 9, 10] [.ptr 12 0, .int .i64 (.ofNat a), .int .i64 (.ofNat n), .sl 13 0 q (some n), npV 2]) (mkH 12 [pvO false nm, .cells n T 5 none 0 false false, npO 2]) = bc (Nat.blt q n) (bc (Nat.ble (Nat.succ q) n) (bc (Nat.ble (Nat.add 0 (Nat.mul (Nat.succ q) 1)) n) (lf .normal 47 ([.ptr 12 0, .int .i64 (.ofNat a), .int .i64 (.ofNat n), .sl 13 0 (Nat.succ q) (some n), npV 2].map some) ([pvO false nm, .cells n (Tr.putAll T (Nat.add 0 (Nat.mul q 1)) [.int .u8 (.ofNat 0)]) 5 none 0 false false, npO 2].map some)) (none)) (bc (roomy (Nat.succ q) 1) (bc (hasA T 0 (Nat.mul q 1)) (lf .normal 47 [some (.ptr 12 0), some (.int .i64 (.ofNat a)), some (.int .i64 (.ofNat n)), none, some (npV 2)] ([pvO false nm, .cells n T 5 none 0 false false, npO 2].map some)) (none)) (none))) (lf (.exit 0) 47 ([.ptr 12 0, .int .i64 (.ofNat a), .int .i64 (.ofNat n), .sl 13 0 q (some n), npV 2].map some) ([pvO false nm, .cells n T 5 none 0 false false, npO 2].map some)) := by kernel_rfl
theorem pb3x_eq (a n q : Nat) (T : Tr AV) (nm : List UInt8) : codesKK EPd (callKK EPd 9) (flat (codeAt [3, 0] fn86.body)) (leafK 12 [1, 2, 3, 9, 10] [0, 1, 2, 3, 4, 5, 6, 7, 8, 9, 10, 11, 12, 13, 14]) (mkFr 47 [1, 2, 3, 9, 10] [.ptr 12 0, .int .i64 (.ofNat a), .int .i64 (.ofNat n), .sl 13 0 q (some n), npV 3]) (mkH 12 [pvO true nm, .cells n T 5 none 0 false false, npO 3]) = bc (Nat.blt q n) (bc (ieq (Int.tmod (wrapR .i64 (.ofNat (Nat.add a q))) (.ofNat 2)) (.ofNat 0)) (bc (!(ilt (wrapR .i64 (Int.sub (.ofNat n) (.ofNat q))) (.ofNat 2))) (bc (Nat.ble (Nat.add q 2) n) (bc (Nat.ble (Nat.add 0 (Nat.mul (Nat.add q 2) 1)) n) (lf .normal 47 ([.ptr 12 0, .int .i64 (.ofNat a), .int .i64 (.ofNat n), .sl 13 0 (Nat.add q 2) (some n), npV 3].map some) ([pvO true nm, .cells n (Tr.putAll T (Nat.add 0 (Nat.mul q 1)) ((nopL 3).map byteAV)) 5 none 0 false false, npO 3].map some)) (none)) (bc (roomy (Nat.add q 2) 1) (bc (hasA T 0 (Nat.mul q 1)) (lf .normal 47 [some (.ptr 12 0), some (.int .i64 (.ofNat a)), some (.int .i64 (.ofNat n)), none, some (npV 3)] ([pvO true nm, .cells n T 5 none 0 false false, npO 3].map some)) (none)) (none))) (bc (Nat.ble (Nat.succ q) n) (bc (Nat.ble (Nat.add 0 (Nat.mul (Nat.succ q) 1)) n) (lf .normal 47 ([.ptr 12 0, .int .i64 (.ofNat a), .int .i64 (.ofNat n), .sl 13 0 (Nat.succ q) (some n), npV 3].map some) ([pvO true nm, .cells n (Tr.putAll T (Nat.add 0 (Nat.mul q 1)) [.int .u8 (.ofNat 0)]) 5 none 0 false false, npO 3].map some)) (none)) (bc (roomy (Nat.succ q) 1) (bc (hasA T 0 (Nat.mul q 1)) (lf .normal 47 [some (.ptr 12 0), some (.int .i64 (.ofNat a)), some (.int .i64 (.ofNat n)), none, some (npV 3)] ([pvO true nm, .cells n T 5 none 0 false false, npO 3].map some)) (none)) (none)))) (bc (Nat.ble (Nat.succ q) n) (bc (Nat.ble (Nat.add 0 (Nat.mul (Nat.succ q) 1)) n) (lf .normal 47 ([.ptr 12 0, .int .i64 (.ofNat a), .int .i64 (.ofNat n), .sl 13 0 (Nat.succ q) (some n), npV 3].map some) ([pvO true nm, .cells n (Tr.putAll T (Nat.add 0 (Nat.mul q 1)) [.int .u8 (.ofNat 0)]) 5 none 0 false false, npO 3].map some)) (none)) (bc (roomy (Nat.succ q) 1) (bc (hasA T 0 (Nat.mul q 1)) (lf .normal 47 [some (.ptr 12 0), some (.int .i64 (.ofNat a)), some (.int .i64 (.ofNat n)), none, some (npV 3)] ([pvO true nm, .cells n T 5 none 0 false false, npO 3].map some)) (none)) (none)))) (lf (.exit 0) 47 ([.ptr 12 0, .int .i64 (.ofNat a), .int .i64 (.ofNat n), .sl 13 0 q (some n), npV 3].map some) ([pvO true nm, .cells n T 5 none 0 false false, npO 3].map some)) := by kernel_rfl
theorem pb3w_eq (a n q : Nat) (T : Tr AV) (nm : List UInt8) : codesKK EPd (callKK EPd 9) (flat (codeAt [3, 0] fn86.body)) (leafK 12 [1, 2, 3, 9, 10] [0, 1, 2, 3, 4, 5, 6, 7, 8, 9, 10, 11, 12, 13, 14]) (mkFr 47 [1, 2, 3, 9, 10] [.ptr 12 0, .int .i64 (.ofNat a), .int .i64 (.ofNat n), .sl 13 0 q (some n), npV 3]) (mkH 12 [pvO false nm, .cells n T 5 none 0 false false, npO 3]) = bc (Nat.blt q n) (bc (Nat.ble (Nat.succ q) n) (bc (Nat.ble (Nat.add 0 (Nat.mul (Nat.succ q) 1)) n) (lf .normal 47 ([.ptr 12 0, .int .i64 (.ofNat a), .int .i64 (.ofNat n), .sl 13 0 (Nat.succ q) (some n), npV 3].map some) ([pvO false nm, .cells n (Tr.putAll T (Nat.add 0 (Nat.mul q 1)) [.int .u8 (.ofNat 0)]) 5 none 0 false false, npO 3].map some)) (none)) (bc (roomy (Nat.succ q) 1) (bc (hasA T 0 (Nat.mul q 1)) (lf .normal 47 [some (.ptr 12 0), some (.int .i64 (.ofNat a)), some (.int .i64 (.ofNat n)), none, some (npV 3)] ([pvO false nm, .cells n T 5 none 0 false false, npO 3].map some)) (none)) (none))) (lf (.exit 0) 47 ([.ptr 12 0, .int .i64 (.ofNat a), .int .i64 (.ofNat n), .sl 13 0 q (some n), npV 3].map some) ([pvO false nm, .cells n T 5 none 0 false false, npO 3].map some)) := by kernel_rfl
theorem pd_pre1 (x : Bool) (a n : Nat) (nm : List UInt8) : codesKK EPd (callKK EPd 9) ((flat fn86.body).take 3) (leafK 12 pdS [0, 1, 2, 3, 4, 5, 6, 7, 8, 9, 10, 11, 13, 14, 16]) (newFr fn86 [.ptr 12 0, .ptr 13 0, .int .i64 (.ofNat a), .int .i64 (.ofNat n)]) (mkH 12 [mvO 1, pvO x nm]) = bc (roomy n 2) (lf .normal 47 ((pdV 1 a n 0).map some) ([pvO x nm, .cells (List.length (rep [.int .u8 (.ofNat 0)] n)) (Tr.putAll Tr.nil 0 (rep [.int .u8 (.ofNat 0)] n)) 5 none 0 false false, npO 1].map some)) none := by kernel_rfl
theorem pd_pre2 (x : Bool) (a n : Nat) (nm : List UInt8) : codesKK EPd (callKK EPd 9) ((flat fn86.body).take 3) (leafK 12 pdS [0, 1, 2, 3, 4, 5, 6, 7, 8, 9, 10, 11, 13, 14, 16]) (newFr fn86 [.ptr 12 0, .ptr 13 0, .int .i64 (.ofNat a), .int .i64 (.ofNat n)]) (mkH 12 [mvO 2, pvO x nm]) = bc (roomy n 2) (lf .normal 47 ((pdV 2 a n 0).map some) ([pvO x nm, .cells (List.length (rep [.int .u8 (.ofNat 0)] n)) (Tr.putAll Tr.nil 0 (rep [.int .u8 (.ofNat 0)] n)) 5 none 0 false false, npO 2].map some)) none := by kernel_rfl
theorem pd_pre3 (x : Bool) (a n : Nat) (nm : List UInt8) : codesKK EPd (callKK EPd 9) ((flat fn86.body).take 3) (leafK 12 pdS [0, 1, 2, 3, 4, 5, 6, 7, 8, 9, 10, 11, 13, 14, 16]) (newFr fn86 [.ptr 12 0, .ptr 13 0, .int .i64 (.ofNat a), .int .i64 (.ofNat n)]) (mkH 12 [mvO 3, pvO x nm]) = bc (roomy n 2) (lf .normal 47 ((pdV 3 a n 0).map some) ([pvO x nm, .cells (List.length (rep [.int .u8 (.ofNat 0)] n)) (Tr.putAll Tr.nil 0 (rep [.int .u8 (.ofNat 0)] n)) 5 none 0 false false, npO 3].map some)) none := by kernel_rfl
def stepB (x : Bool) (nop : List UInt8) (a n : Nat) (L : List UInt8) : List UInt8 := bif x && (Nat.beq ((a + L.length) % nop.length) 0 && Nat.ble nop.length (n - L.length)) then nop else [0]
def padF (x : Bool) (nop : List UInt8) (a n : Nat) : Nat → List UInt8 → List UInt8
  | 0, L => L
  | f + 1, L => if L.length < n then padF x nop a n f (L ++ stepB x nop a n L) else L
def padB (x : Bool) (nop : List UInt8) (a n : Nat) : List UInt8 := padF x nop a n n []
theorem nop_len (t : Nat) : 1 ≤ (nopL t).length ∧ (nopL t).length ≤ 4 := by
  unfold nopL
  cases Nat.beq t 1 with
  | true => exact ⟨Nat.le_refl 1, show 1 ≤ 4 by omega⟩
  | false => cases Nat.beq t 2 <;> decide
theorem stepB_len {x : Bool} {t a n : Nat} {L : List UInt8} (h : L.length < n) : 1 ≤ (stepB x (nopL t) a n L).length ∧ L.length + (stepB x (nopL t) a n L).length ≤ n := by
  unfold stepB
  cases hc : x && (Nat.beq ((a + L.length) % (nopL t).length) 0 && Nat.ble (nopL t).length (n - L.length)) with
  | true =>
    simp only [Bool.and_eq_true, Nat.ble_eq] at hc
    have := nop_len t
    simp only [cond_true]; omega
  | false => simp only [cond_false, List.length_cons, List.length_nil]; omega
theorem pd_rem {a q k : Nat} (h : a + q < 9223372036854775808) : ieq (Int.tmod (wrapR .i64 (.ofNat (Nat.add a q))) (.ofNat k)) (.ofNat 0) = Nat.beq ((a + q) % k) 0 := by
  rw [wrap_i64 (show Nat.add a q < _ from h)]; rfl
theorem pd_left {n q k : Nat} (h : q ≤ n) (hn : n < 9223372036854775808) : (!(ilt (wrapR .i64 (Int.sub (.ofNat n) (.ofNat q))) (.ofNat k))) = Nat.ble k (n - q) := by
  rw [sub_nat h, wrap_i64 (by omega)]
  show (!(Nat.blt (n - q) k)) = _
  by_cases hk : k ≤ n - q
  · rw [blt_f (by omega), ble_t hk]; rfl
  · rw [blt_t (by omega), ble_f hk]; rfl
theorem row_to {b : Nat} {keep : List Nat} {n : Nat} {L : List UInt8} {T : Tr AV} (h : RowB T L) (hL : L.length < 2 ^ 47) : RObj b keep (bRo n T) (bRo n (bT L)) := ⟨bT L, rfl, fun i y hy => by
  rcases Tr.get_putAll _ hy with ⟨j, rfl, hj⟩ | ⟨_, hu⟩
  · rw [Nat.zero_add]
    rw [List.getElem?_map] at hj
    obtain ⟨c, hc, rfl⟩ := Option.map_eq_some_iff.1 hj
    exact ⟨_, h j c hc, rfl⟩
  · simp [Tr.get_nil] at hu⟩
theorem RowB.app {T : Tr AV} {L new : List UInt8} (h : RowB T L) (hl : L.length + new.length < 2 ^ 47) : RowB (T.putAll L.length (new.map byteAV)) (L ++ new) := fun i b hi => by
  rw [get_putAllB _ _ _ _ (by rw [List.length_map]; omega), List.length_map]
  by_cases hc : i < L.length
  · rw [if_neg (by omega)]
    rw [List.getElem?_append_left hc] at hi
    exact h i b hi
  · have hlt := (List.getElem?_eq_some_iff.1 hi).1
    rw [List.length_append] at hlt
    rw [if_pos (by omega), List.getElem?_map]
    rw [List.getElem?_append_right (by omega)] at hi
    rw [hi]; rfl
theorem np_plain (t : Nat) {b : Nat} {keep : List Nat} : RObj b keep (npO t) (npO t) := by
  unfold npO
  cases Nat.beq t 1 with
  | true => exact ⟨_, rfl, fun i y hy => ⟨y, hy, putAll_plain (fun _ _ h => by simp [Tr.get_nil] at h) (plain_list rfl) i y hy b keep⟩⟩
  | false =>
    cases Nat.beq t 2 with
    | true => exact ⟨_, rfl, fun i y hy => ⟨y, hy, putAll_plain (fun _ _ h => by simp [Tr.get_nil] at h) (plain_list rfl) i y hy b keep⟩⟩
    | false => exact ⟨_, rfl, fun i y hy => ⟨y, hy, putAll_plain (fun _ _ h => by simp [Tr.get_nil] at h) (plain_list rfl) i y hy b keep⟩⟩
theorem pv_plain (x : Bool) (nm : List UInt8) {b : Nat} {keep : List Nat} : RObj b keep (pvO x nm) (pvO x nm) := ⟨_, rfl, fun i y hy => ⟨y, hy, putAll_plain (fun _ _ h => by simp [Tr.get_nil] at h) (plain_list rfl) i y hy b keep⟩⟩
theorem pd_rows {t : Nat} {x : Bool} {nm : List UInt8} {n : Nat} {L : List UInt8} {T : Tr AV} (h : RowB T L) (hL : L.length < 2 ^ 47) {keep : List Nat} : ∀ (j : Nat) o o2, (pdO t x nm n T)[j]? = some o → (pdO t x nm n (bT L))[j]? = some o2 → RObj 0 keep o o2
  | 0, o, o2, h1, h2 => by cases h1; cases h2; exact pv_plain x nm
  | 1, o, o2, h1, h2 => by cases h1; cases h2; exact row_to h hL
  | 2, o, o2, h1, h2 => by cases h1; cases h2; exact np_plain t
  | j + 3, o, o2, h1, h2 => by simp [pdO] at h1
theorem pd_round {t : Nat} (ht : t = 1 ∨ t = 2 ∨ t = 3) (x : Bool) {a n : Nat} (nm : List UInt8) {L : List UInt8} (T : Tr AV) (ha : a + n < 1000000000) (h : L.length < n) : codesKK EPd (callKK EPd 9) (flat (codeAt [3, 0] fn86.body)) (leafK 12 pdS [0, 1, 2, 3, 4, 5, 6, 7, 8, 9, 10, 11, 12, 13, 14]) (mkFr 47 pdS (pdV t a n L.length)) (mkH 12 (pdO t x nm n T)) = lf .normal 47 ((pdV t a n (L.length + (stepB x (nopL t) a n L).length)).map some) ((pdO t x nm n (T.putAll L.length ((stepB x (nopL t) a n L).map byteAV))).map some) := by
  have e0 : Nat.add 0 (Nat.mul L.length 1) = L.length := by show 0 + L.length * 1 = _; omega
  have e1 : Nat.ble (Nat.succ L.length) n = true := ble_t (by omega)
  have e2 : Nat.ble (Nat.add 0 (Nat.mul (Nat.succ L.length) 1)) n = true := ble_t (show 0 + (L.length + 1) * 1 ≤ n by omega)
  have z : ([0] : List UInt8).map byteAV = [.int .u8 (.ofNat 0)] := rfl
  rcases ht with rfl | rfl | rfl <;> cases x
  · refine (pb1w_eq a n L.length T nm).trans ((bcT (blt_t h)).trans ?_)
    refine ((bcT e1).trans ((bcT e2).trans ?_))
    rw [e0]; rfl
  · refine (pb1x_eq a n L.length T nm).trans ((bcT (blt_t h)).trans ?_)
    rw [pd_rem (by omega), pd_left (by omega) (by omega)]
    cases c1 : Nat.beq ((a + L.length) % 1) 0 with
    | true =>
      cases c2 : Nat.ble 1 (n - L.length) with
      | true =>
        have c3 := c2
        rw [Nat.ble_eq] at c3
        have hs : stepB true (nopL 1) a n L = nopL 1 := by unfold stepB; show (bif true && (Nat.beq ((a + L.length) % 1) 0 && Nat.ble 1 (n - L.length)) then _ else _) = _; rw [c1, c2]; rfl
        rw [hs]
        refine (bcT rfl).trans ((bcT rfl).trans ((bcT (ble_t (show L.length + 1 ≤ n by omega))).trans ((bcT (ble_t (show 0 + (L.length + 1) * 1 ≤ n by omega))).trans ?_)))
        rw [e0]; rfl
      | false =>
        have hs : stepB true (nopL 1) a n L = [0] := by unfold stepB; show (bif true && (Nat.beq ((a + L.length) % 1) 0 && Nat.ble 1 (n - L.length)) then _ else _) = _; rw [c1, c2]; rfl
        rw [hs]
        refine (bcT rfl).trans ((bcF rfl).trans ?_)
        refine ((bcT e1).trans ((bcT e2).trans ?_))
        rw [e0]; rfl
    | false =>
      have hs : stepB true (nopL 1) a n L = [0] := by unfold stepB; show (bif true && (Nat.beq ((a + L.length) % 1) 0 && Nat.ble 1 (n - L.length)) then _ else _) = _; rw [c1]; rfl
      rw [hs]
      refine (bcF rfl).trans ?_
      refine ((bcT e1).trans ((bcT e2).trans ?_))
      rw [e0]; rfl
  · refine (pb2w_eq a n L.length T nm).trans ((bcT (blt_t h)).trans ?_)
    refine ((bcT e1).trans ((bcT e2).trans ?_))
    rw [e0]; rfl
  · refine (pb2x_eq a n L.length T nm).trans ((bcT (blt_t h)).trans ?_)
    rw [pd_rem (by omega), pd_left (by omega) (by omega)]
    cases c1 : Nat.beq ((a + L.length) % 4) 0 with
    | true =>
      cases c2 : Nat.ble 4 (n - L.length) with
      | true =>
        have c3 := c2
        rw [Nat.ble_eq] at c3
        have hs : stepB true (nopL 2) a n L = nopL 2 := by unfold stepB; show (bif true && (Nat.beq ((a + L.length) % 4) 0 && Nat.ble 4 (n - L.length)) then _ else _) = _; rw [c1, c2]; rfl
        rw [hs]
        refine (bcT rfl).trans ((bcT rfl).trans ((bcT (ble_t (show L.length + 4 ≤ n by omega))).trans ((bcT (ble_t (show 0 + (L.length + 4) * 1 ≤ n by omega))).trans ?_)))
        rw [e0]; rfl
      | false =>
        have hs : stepB true (nopL 2) a n L = [0] := by unfold stepB; show (bif true && (Nat.beq ((a + L.length) % 4) 0 && Nat.ble 4 (n - L.length)) then _ else _) = _; rw [c1, c2]; rfl
        rw [hs]
        refine (bcT rfl).trans ((bcF rfl).trans ?_)
        refine ((bcT e1).trans ((bcT e2).trans ?_))
        rw [e0]; rfl
    | false =>
      have hs : stepB true (nopL 2) a n L = [0] := by unfold stepB; show (bif true && (Nat.beq ((a + L.length) % 4) 0 && Nat.ble 4 (n - L.length)) then _ else _) = _; rw [c1]; rfl
      rw [hs]
      refine (bcF rfl).trans ?_
      refine ((bcT e1).trans ((bcT e2).trans ?_))
      rw [e0]; rfl
  · refine (pb3w_eq a n L.length T nm).trans ((bcT (blt_t h)).trans ?_)
    refine ((bcT e1).trans ((bcT e2).trans ?_))
    rw [e0]; rfl
  · refine (pb3x_eq a n L.length T nm).trans ((bcT (blt_t h)).trans ?_)
    rw [pd_rem (by omega), pd_left (by omega) (by omega)]
    cases c1 : Nat.beq ((a + L.length) % 2) 0 with
    | true =>
      cases c2 : Nat.ble 2 (n - L.length) with
      | true =>
        have c3 := c2
        rw [Nat.ble_eq] at c3
        have hs : stepB true (nopL 3) a n L = nopL 3 := by unfold stepB; show (bif true && (Nat.beq ((a + L.length) % 2) 0 && Nat.ble 2 (n - L.length)) then _ else _) = _; rw [c1, c2]; rfl
        rw [hs]
        refine (bcT rfl).trans ((bcT rfl).trans ((bcT (ble_t (show L.length + 2 ≤ n by omega))).trans ((bcT (ble_t (show 0 + (L.length + 2) * 1 ≤ n by omega))).trans ?_)))
        rw [e0]; rfl
      | false =>
        have hs : stepB true (nopL 3) a n L = [0] := by unfold stepB; show (bif true && (Nat.beq ((a + L.length) % 2) 0 && Nat.ble 2 (n - L.length)) then _ else _) = _; rw [c1, c2]; rfl
        rw [hs]
        refine (bcT rfl).trans ((bcF rfl).trans ?_)
        refine ((bcT e1).trans ((bcT e2).trans ?_))
        rw [e0]; rfl
    | false =>
      have hs : stepB true (nopL 3) a n L = [0] := by unfold stepB; show (bif true && (Nat.beq ((a + L.length) % 2) 0 && Nat.ble 2 (n - L.length)) then _ else _) = _; rw [c1]; rfl
      rw [hs]
      refine (bcF rfl).trans ?_
      refine ((bcT e1).trans ((bcT e2).trans ?_))
      rw [e0]; rfl
theorem pd_exit {t : Nat} (ht : t = 1 ∨ t = 2 ∨ t = 3) (x : Bool) {a n : Nat} (nm : List UInt8) (T : Tr AV) : codesKK EPd (callKK EPd 9) (flat (codeAt [3, 0] fn86.body)) (leafK 12 pdS [0, 1, 2, 3, 4, 5, 6, 7, 8, 9, 10, 11, 12, 13, 14]) (mkFr 47 pdS (pdV t a n n)) (mkH 12 (pdO t x nm n T)) = lf (.exit 0) 47 ((pdV t a n n).map some) ((pdO t x nm n T).map some) := by
  have h : Nat.blt n n = false := blt_f (Nat.lt_irrefl n)
  rcases ht with rfl | rfl | rfl <;> cases x
  · exact (pb1w_eq a n n T nm).trans ((bcF h).trans rfl)
  · exact (pb1x_eq a n n T nm).trans ((bcF h).trans rfl)
  · exact (pb2w_eq a n n T nm).trans ((bcF h).trans rfl)
  · exact (pb2x_eq a n n T nm).trans ((bcF h).trans rfl)
  · exact (pb3w_eq a n n T nm).trans ((bcF h).trans rfl)
  · exact (pb3x_eq a n n T nm).trans ((bcF h).trans rfl)
section
variable {P : Program} {I : List MEnt → AHeap → World → Prop} {ro : Option Nat}
theorem pd_loop (hE : EnvOk EPd P I) (hI : Carried I) {t : Nat} (ht : t = 1 ∨ t = 2 ∨ t = 3) (x : Bool) {a n : Nat} (nm : List UInt8) (ha : a + n < 1000000000) : Tri EPd P I ro (.loop (codeAt [3, 0] fn86.body)) (mkFr 47 pdS (pdV t a n 0)) (mkH 12 (pdO t x nm n (bT []))) fun e fr H => e = .exit 0 ∧ ∃ keep, (padB x (nopL t) a n).length = n ∧ Ren 12 keep fr H (mkFr 47 pdS (pdV t a n n)) (mkH 12 (pdO t x nm n (bT (padB x (nopL t) a n)))) := by
  refine (Tri.loop (X := List UInt8) (fr := fun L => mkFr 47 pdS (pdV t a n L.length)) (H := fun L => mkH 12 (pdO t x nm n (bT L))) (Inv := fun L => L.length ≤ n ∧ ∃ f, n ≤ L.length + f ∧ padF x (nopL t) a n f L = padB x (nopL t) a n) (fun L => n - L.length) (Q := fun e fr H => e = .exit 0 ∧ ∃ keep, (padB x (nopL t) a n).length = n ∧ Ren 12 keep fr H (mkFr 47 pdS (pdV t a n n)) (mkH 12 (pdO t x nm n (bT (padB x (nopL t) a n))))) hI ?_ [] ⟨Nat.zero_le _, n, by simp, rfl⟩).mono ?_
  · rintro L ⟨h1, f, h2, h3⟩
    refine tri_of_triL _ ?_
    have hL47 : L.length < 2 ^ 47 := by have : (2 : Nat) ^ 47 = 140737488355328 := by decide
                                        omega
    by_cases h : L.length < n
    · have hs := stepB_len (x := x) (t := t) (a := a) h
      have e47 : (2 : Nat) ^ 47 = 140737488355328 := by decide
      refine TriL.leafE hE (os2 := pdO t x nm n (bT (L ++ stepB x (nopL t) a n L))) (pd_round ht x nm (bT L) ha h) (by decide) rfl rfl (pd_rows (RowB.app (rowB_bT hL47) (by omega)) (by rw [List.length_append]; omega)) fun fr' H' r => .inl ⟨rfl, L ++ stepB x (nopL t) a n L, _, ⟨by rw [List.length_append]; omega, ?_⟩, by rw [List.length_append]; omega, by rw [List.length_append]; exact r⟩
      cases f with
      | zero => omega
      | succ f =>
        refine ⟨f, by rw [List.length_append]; omega, ?_⟩
        rw [← h3]
        show _ = (if L.length < n then _ else _)
        rw [if_pos h]
    · have hl : L.length = n := by omega
      have hB : padB x (nopL t) a n = L := by
        rw [← h3]
        cases f with
        | zero => rfl
        | succ f => show (if L.length < n then _ else _) = _; rw [if_neg h]
      subst hl
      refine TriL.leafE hE (os2 := pdO t x nm L.length (bT L)) (pd_exit ht x nm (bT L)) (by decide) rfl rfl (pd_rows (rowB_bT hL47) hL47) fun fr' H' r => .inr ⟨(by intro h; cases h), rfl, _, by rw [hB], by rw [hB]; exact r⟩
  · rintro e fr H ⟨rfl, h⟩
    exact ⟨rfl, h⟩
def ihP : Task → Option TRes := run EPd 9
def FZp (t a n : Nat) : AFr := match codeL EPd ihP ((flat fn86.body).drop 4) (mkFr 47 pdS (pdV t a n n)) (mkH 12 []) with
  | some (.code _ fr _) => fr
  | _ => default
theorem pd_end (t a n : Nat) (x : Bool) (nm : List UInt8) (T : Tr AV) : codeL EPd ihP ((flat fn86.body).drop 4) (mkFr 47 pdS (pdV t a n n)) (mkH 12 (pdO t x nm n T)) = some (.code .ret (FZp t a n) (mkH 12 (pdO t x nm n T))) := by kernel_rfl
theorem pd_res (t a n : Nat) (x : Bool) (nm : List UInt8) (T : Tr AV) : resA EPd (FZp t a n).t (mkH 12 (pdO t x nm n T)) fn86.results = some [.sl 13 0 n (some n)] := by kernel_rfl
theorem pd_df (t a n : Nat) : (FZp t a n).df = [] := by kernel_rfl
theorem pd_get (t n : Nat) (x : Bool) (nm : List UInt8) (T : Tr AV) : (mkH 12 (pdO t x nm n T)).get 13 = some (bRo n T) := by kernel_rfl
theorem pd_tri (hE : EnvOk EPd P I) (hI : Carried I) {t : Nat} (ht : t = 1 ∨ t = 2 ∨ t = 3) (x : Bool) {a n : Nat} (nm : List UInt8) (ha : a + n < 1000000000) (hn : n ≤ 5000) (b : Nat) : Tri EPd P I ro fn86.body (newFr fn86 [.ptr 12 0, .ptr 13 0, .int .i64 (.ofNat a), .int .i64 (.ofNat n)]) (mkH 12 [mvO t, pvO x nm]) fun e fr H1 => (e = .normal ∨ e = .ret) ∧ fr.df = [] ∧ ∃ l keep, resA EPd fr.t H1 fn86.results = some l ∧ rnV b keep (resV l) = some (.sl b 0 n (some n)) ∧ keep.Nodup ∧ [bRo n (bT (padB x (nopL t) a n))].length = keep.length ∧ ∀ (j : Nat) (y : AObj), [bRo n (bT (padB x (nopL t) a n))][j]? = some y → ∃ i o, keep[j]? = some i ∧ H1.get i = some o ∧ RObj b keep o y ∧ o.isRo = false := by
  refine tri_of_triL _ ?_
  rw [fn86_flat]
  have hlen : List.length (rep [AV.int .u8 (.ofNat 0)] n) = n := by rw [rep_len]; simp
  have pre : codesKK EPd (callKK EPd 9) ((flat fn86.body).take 3) (leafK 12 pdS [0, 1, 2, 3, 4, 5, 6, 7, 8, 9, 10, 11, 13, 14, 16]) (newFr fn86 [.ptr 12 0, .ptr 13 0, .int .i64 (.ofNat a), .int .i64 (.ofNat n)]) (mkH 12 [mvO t, pvO x nm]) = lf .normal 47 ((pdV t a n 0).map some) ((pdO t x nm n (Tr.putAll Tr.nil 0 (rep [.int .u8 (.ofNat 0)] n))).map some) := by
    have hr : roomy n 2 = true := roomy_yes (by omega) (by decide)
    unfold pdO bRo
    rcases ht with rfl | rfl | rfl
    · refine (pd_pre1 x a n nm).trans ((bcT hr).trans ?_); rw [hlen]
    · refine (pd_pre2 x a n nm).trans ((bcT hr).trans ?_); rw [hlen]
    · refine (pd_pre3 x a n nm).trans ((bcT hr).trans ?_); rw [hlen]
  refine TriL.leafX hE hI (os2 := pdO t x nm n (bT [])) pre (by decide) rfl rfl (pd_rows (L := []) (fun i b hi => by simp at hi) (by decide)) (.inl ⟨rfl, ?_⟩)
  refine Tri.mono (Tri.block (Q := fun e fr H => e = .normal ∧ ∃ keep, (padB x (nopL t) a n).length = n ∧ Ren 12 keep fr H (mkFr 47 pdS (pdV t a n n)) (mkH 12 (pdO t x nm n (bT (padB x (nopL t) a n))))) ((pd_loop hE hI ht x nm ha).mono ?_)) ?_
  · rintro e fr H ⟨rfl, h⟩
    exact ⟨rfl, h⟩
  · rintro e fr H ⟨rfl, keep, hl, r⟩
    refine .inl ⟨rfl, TriL.ren hI r ?_⟩
    rw [← List.append_nil ((flat fn86.body).drop 4)]
    refine TriL.run hE (sound_run hE 9) (m := []) (pd_end t a n x nm _) (.inr ⟨(by intro h; cases h), .inr rfl, pd_df t a n, [.sl 13 0 n (some n)], [13], pd_res t a n x nm _, ?_, by simp, rfl, fun j y hy => ?_⟩)
    · simp [resV, rnV, posOf]
    · match j, hy with
      | 0, hy =>
        cases hy
        have e47 : (2 : Nat) ^ 47 = 140737488355328 := by decide
        exact ⟨13, _, rfl, pd_get t n x nm _, row_to (rowB_bT (by omega)) (by omega), rfl⟩
      | j + 1, hy => simp at hy
end
def padK2 (T1 T2 : Tr AV) (H : AHeap) (a n : Nat) : Option (AV × AHeap) := match T1.get 0, T2.get 0, T2.get 1 with
  | some (.int .i64 (.ofNat t)), some (.str _), some (.str fl) => bif Nat.blt 0 t && (Nat.blt t 4 && (Nat.blt (a + n) 1000000000 && Nat.ble n 5000)) then (bif leq fl (flO true) then some (.sl H.next 0 n (some n), news H [bRo n (bT (padB true (nopL t) a n))]) else bif leq fl (flO false) then some (.sl H.next 0 n (some n), news H [bRo n (bT (padB false (nopL t) a n))]) else none) else none
  | _, _, _ => none
def paddingSm : Sm := fun f args H => match args with
  | [.ptr i 0, .ptr j 0, .int .i64 (.ofNat a), .int .i64 (.ofNat n)] => bif Nat.beq f 86 then (match H.get i, H.get j with
    | some (.cells 11 T1 _ _ _ _ _), some (.cells 6 T2 _ _ _ _ _) => padK2 T1 T2 H a n
    | _, _ => none) else none
  | _ => none
theorem padding_ok : SmOk Tryz.prog gl paddingSm := by
  intro f args H v H' M w cargs hs hw hr ha
  unfold paddingSm at hs
  split at hs
  case h_2 => cases hs
  rename_i i j a n
  rw [Bool.cond_eq_ite] at hs
  split at hs
  case isFalse => cases hs
  rename_i hb
  rw [Nat.beq_eq] at hb
  subst hb
  split at hs
  case h_2 => cases hs
  rename_i T1 e1 g1 z1 r1 k1 T2 e2 g2 z2 r2 k2 hg1 hg2
  unfold padK2 at hs
  split at hs
  case h_2 => cases hs
  rename_i t nm fl h1 h2 h3
  rw [Bool.cond_eq_ite] at hs
  split at hs
  case isFalse => cases hs
  rename_i hc
  simp only [Bool.and_eq_true, Nat.blt_eq, Nat.ble_eq] at hc
  obtain ⟨c1, c2, c3, c4⟩ := hc
  have ht : t = 1 ∨ t = 2 ∨ t = 3 := by omega
  obtain ⟨m1, hm1, o1⟩ := hr.obj i _ hg1
  obtain ⟨m2, hm2, o2⟩ := hr.obj j _ hg2
  have go : ∀ x : Bool, fl = flO x → CallsA Tryz.prog 86 cargs M H w (.ret (.sl H.next 0 n (some n)) (news H [bRo n (bT (padB x (nopL t) a n))])) := by
    intro x hx
    subst hx
    have s1 : ORel [] m1 w (mvO t) := row_sub o1 (T2 := Tr.nil.putAll 0 [.int .i64 (.ofNat t)]) (fun q y hy => by
      rcases Tr.get_putAll _ hy with ⟨p, rfl, hp⟩ | ⟨_, hu⟩
      · match p, hp with
        | 0, hp => cases hp; exact ⟨h1, plain_int _ _⟩
        | p + 1, hp => simp at hp
      · simp [Tr.get_nil] at hu) 0
    have s2 : ORel [] m2 w (pvO x nm) := row_sub o2 (T2 := Tr.nil.putAll 0 [.str nm, .str (flO x)]) (fun q y hy => by
      rcases Tr.get_putAll _ hy with ⟨p, rfl, hp⟩ | ⟨_, hu⟩
      · match p, hp with
        | 0, hp => cases hp; exact ⟨h2, plain_str _⟩
        | 1, hp => cases hp; exact ⟨h3, plain_str _⟩
        | p + 2, hp => simp at hp
      · simp [Tr.get_nil] at hu) 0
    match cargs, ha with
    | [a0, a1, a2, a3], ⟨v0, v1, v2, v3, _⟩ =>
      have x0 : VRel (mGlob EPd.ng 0 ++ [m1, m2]) (.ptr 12 0) a0 := by
        obtain ⟨mm, hmm, e⟩ := v0
        rw [hm1] at hmm; cases hmm
        exact ⟨m1, by rw [List.getElem?_append_right (by rw [mGlob_len]; exact Nat.le_refl _), mGlob_len]; rfl, e⟩
      have x1 : VRel (mGlob EPd.ng 0 ++ [m1, m2]) (.ptr 13 0) a1 := by
        obtain ⟨mm, hmm, e⟩ := v1
        rw [hm2] at hmm; cases hmm
        exact ⟨m2, by rw [List.getElem?_append_right (by rw [mGlob_len]; exact Nat.le_succ _), mGlob_len]; rfl, e⟩
      exact view_newT (ex := [m1, m2]) (os := [mvO t, pvO x nm]) (args := [.ptr 12 0, .ptr 13 0, .int .i64 (.ofNat a), .int .i64 (.ofNat n)]) epd_ok fn86_eq hw hr rfl (fun o ho => by
        rcases List.mem_cons.1 ho with rfl | ho
        · rfl
        · cases List.mem_singleton.1 ho; rfl) (fun q m o e1 e2 => by
        match q, e1, e2 with
        | 0, e1, e2 => cases e1; cases e2; exact s1
        | 1, e1, e2 => cases e1; cases e2; exact s2
        | q + 2, e1, e2 => simp at e1) ⟨x0, x1, v2, v3, trivial⟩ (pd_tri (epd_ok w hw) (kept_carried hw) ht x nm c3 c4 H.next)
  rw [Bool.cond_eq_ite] at hs
  split at hs
  · rename_i h
    rw [leq_iff, decide_eq_true_eq] at h
    simp only [Option.some.injEq, Prod.mk.injEq] at hs
    obtain ⟨rfl, rfl⟩ := hs
    exact go true h
  · rw [Bool.cond_eq_ite] at hs
    split at hs
    case isFalse => cases hs
    rename_i h
    rw [leq_iff, decide_eq_true_eq] at h
    simp only [Option.some.injEq, Prod.mk.injEq] at hs
    obtain ⟨rfl, rfl⟩ := hs
    exact go false h
end
end Go.Proofs.YthlcgkebfodnmaaGreatDoor
