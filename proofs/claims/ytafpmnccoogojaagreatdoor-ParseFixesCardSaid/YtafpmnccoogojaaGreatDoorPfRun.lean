/- ParseFixes: the law's runs, case by case; the number is unknown. -/
import Derived.Test.YtafpmnccoogojaaGreatDoorPfDig
import Derived.Test.YtafpmnccoogojaaGreatDoorLxLine
import Derived.Test.YtafpmnccoogojaaGreatDoorPfBegun
import Derived.KernelRfl
namespace Go.Proofs.YtafpmnccoogojaaGreatDoor
open Go Go.Vai
noncomputable section
set_option maxRecDepth 100000
def nmP (b : List UInt8) : Pc := .lit b ⟨1, b, 0⟩
def sgP (c : UInt8) : Pc := .lit [c] ⟨4, [c], 0⟩
def xP (c : UInt8) : List Pc := [nmP [115, 121, 109, 46, 49], .bl, sgP c, .bl, .num]
def tx1 (h : List Pc) (c : UInt8) (t : List Pc) : List Pc := h ++ (xP c ++ t)
def tx2 (h : List Pc) (c : UInt8) (m : List UInt8) (t : List Pc) : List Pc := h ++ (sgP 64 :: nmP m :: sgP 40 :: (xP c ++ (sgP 41 :: t)))
def tx4 (h : List Pc) (c : UInt8) (m : List UInt8) (t : List Pc) : List Pc := h ++ (sgP 64 :: nmP m :: sgP 40 :: (xP c ++ t))
def oddB : List UInt8 := [111, 100, 100]
def ansP {α : Type} (n : Nat) (D : List UInt8) (t : List Pc) (H : AHeap) (k : AV → AHeap → Option α) : Option α := k (.tup [.sl H.next 0 (wds n D t 0).length none, .int .i64 (.ofNat 0), .int .i64 (.ofNat 0)]) (H.new (rowW (wds n D t 0)))
def linP {α : Type} (hl n : Nat) (D : List UInt8) (t1 t2 t3 t4 : List Pc) (args : List AV) (H : AHeap) (k : AV → AHeap → Option α) : Option α := match args with
  | [.str s] => bif Nat.beq (byteAt s hl).toNat 64 then (bif Nat.beq (byteAt s (hl + 1)).toNat 111 then bc (leq s (txt D t3)) (ansP n D t3 H k) none else bc (leq s (txt D t2)) (ansP n D t2 H k) (bc (leq s (txt D t4)) (ansP n D t4 H k) none)) else bc (leq s (txt D t1)) (ansP n D t1 H k) none
  | _ => none
def plaP {α : Type} (n : Nat) (D : List UInt8) (args : List AV) (H : AHeap) (k : AV → AHeap → Option α) : Option α := match args with
  | [.int .u64 x] => bc (ieq x (.ofNat n)) (k (.str D) H) none
  | _ => none
def EPf : Env := envOf Tryz.prog 12 [4, 9, 11, 85] (orSm (extSm kinds) (orSm (contSm 85) (orSm (retSm 4 true) (orSm (plainSm plainFv) lineSm))))
theorem epf_ok (w : World) (hw : GlobOk gl w) : EnvOk EPf Tryz.prog (Kept gl w) := envOk_sm (by kernel_rfl) ((smOk_ext ext_ok).or (cont_ok1.or ((smOk_ret begun_ret).or (plainF_ok.or line_ok)))) mixed_ok (fun _ _ _ h => h.1) (kept_carried hw).ext
def SKpf {α : Type} (hl n : Nat) (D : List UInt8) (t1 t2 t3 t4 : List Pc) : Smk α := fun f args H k => bif Nat.beq f 11 then linP hl n D t1 t2 t3 t4 args H k else bif Nat.beq f 9 then plaP n D args H k else smC EPf f args H k
def pnP (a b : Nat) : Pin := fun op => match op.dst with
  | some d => bif Nat.beq d 65 then some (.ofNat a) else bif Nat.beq d 99 then some (.ofNat b) else none
  | none => none
def pfT (hb xb mb ob tb mo : List UInt8) (a b L : Nat) (v : Int) (n k : Nat) (D : List UInt8) (t1 t2 t3 t4 : List Pc) : Option AV :=
  bc (ilt (wrapR .i64 (.ofNat n)) (.ofNat 0)) (none) (bc (ieq (wrapR .u64 (wrapR .i64 (.ofNat n))) (.ofNat n)) (bc (Nat.ble (Nat.add xb.length (lenU D)) 1099511627776) (bc (ieq (Int.tmod (wrapR .i64 (.ofNat k)) (.ofNat 3)) (.ofNat a)) (bc (Nat.ble (Nat.add hb.length (lenU (xb ++ D))) 1099511627776) (bc (Nat.ble (Nat.add (lenU (hb ++ (xb ++ D))) tb.length) 1099511627776) (bc (leq ((hb ++ (xb ++ D)) ++ tb) (txt D t1)) (bc (AV.eqb (.agg [.str [115, 121, 109, 46, 49], .int .i64 v, .str []]) (.agg [.str [115, 121, 109, 46, 49], .int .i64 v, .str []])) (bc (!((ieq v v) && true)) (none) (bc (ieq (Int.tmod (wrapR .i64 (.ofNat k)) (.ofNat L)) (.ofNat b)) (bc (Nat.ble (Nat.add mb.length (lenU (xb ++ D))) 1099511627776) (bc (Nat.ble (Nat.succ (lenU (mb ++ (xb ++ D)))) 1099511627776) (bc (Nat.ble (Nat.add (lenU ((mb ++ (xb ++ D)) ++ [41])) tb.length) 1099511627776) (bc (leq (((mb ++ (xb ++ D)) ++ [41]) ++ tb) (txt D t2)) (bc (AV.eqb (.agg [.str [115, 121, 109, 46, 49], .int .i64 v, .str mo]) (.agg [.str [115, 121, 109, 46, 49], .int .i64 v, .str mo])) (bc (!((ieq v v) && true)) (none) (bc (Nat.ble (Nat.add ob.length (lenU (xb ++ D))) 1099511627776) (bc (Nat.ble (Nat.succ (lenU (ob ++ (xb ++ D)))) 1099511627776) (bc (Nat.ble (Nat.add (lenU ((ob ++ (xb ++ D)) ++ [41])) tb.length) 1099511627776) (bc (leq (((ob ++ (xb ++ D)) ++ [41]) ++ tb) (txt D t3)) (bc (Nat.ble (Nat.add mb.length (lenU (xb ++ D))) 1099511627776) (bc (Nat.ble (Nat.add (lenU (mb ++ (xb ++ D))) tb.length) 1099511627776) (bc (leq ((mb ++ (xb ++ D)) ++ tb) (txt D t2)) (none) (bc (leq ((mb ++ (xb ++ D)) ++ tb) (txt D t4)) (some (.bool true)) (none))) (none)) (none)) (none)) (none)) (none)) (none))) (none)) (bc (leq (((mb ++ (xb ++ D)) ++ [41]) ++ tb) (txt D t4)) (none) (none))) (none)) (none)) (none)) (none))) (none)) (none)) (none)) (none)) (none)) (none)) (none))
end
end Go.Proofs.YtafpmnccoogojaaGreatDoor
