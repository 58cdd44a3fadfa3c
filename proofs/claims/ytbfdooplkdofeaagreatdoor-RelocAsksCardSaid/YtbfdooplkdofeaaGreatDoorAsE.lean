/- The environments of Encode and of the reference's Check. -/
import Derived.Test.YtbfdooplkdofeaaGreatDoorAsFld
import Derived.Test.YtbfdooplkdofeaaGreatDoorAsTb
import Derived.Test.YtbfdooplkdofeaaGreatDoorAsEb
import Derived.Test.YtbfdooplkdofeaaGreatDoorVaiOpq
import Derived.KernelRfl
namespace Go.Proofs.YtbfdooplkdofeaaGreatDoor
open Go Go.Vai
noncomputable section
set_option maxRecDepth 100000
def E3 : Env := Zdn Tryz.prog 12 [15, 91, 97, 158, 166, 156] (orSm (Zd2 kinds) (orSm (Zb7 15) (orSm (Zaz findF) fldSm)))
theorem e3_ok (w : World) (hw : Zay gl w) : EnvOk E3 Tryz.prog (Kept gl w) := Zb9 (by kernel_rfl) ((Zcc ext_ok).or (Zca.or (find_ok.or fld_ok))) Zcb (fun _ _ _ h => h.1) (Zau hw).ext
def E3e : Env := Zdn Tryz.prog 12 [15, 91, 97, 158, 166, 156, 93] (orSm (Zd2 kinds) (orSm (Zb7 15) (orSm (Zaz findF) fldSm)))
theorem e3e_ok (w : World) (hw : Zay gl w) : EnvOk E3e Tryz.prog (Kept gl w) := Zb9 (by kernel_rfl) ((Zcc ext_ok).or (Zca.or (find_ok.or fld_ok))) Zcb (fun _ _ _ h => h.1) (Zau hw).ext
def Er : Env := Zdn Tryz.prog 12 [15, 115, 116, 119, 120] (orSm (Zd2 kinds) (orSm (Zb7 15) tabSm))
theorem er_ok (w : World) (hw : Zay gl w) : EnvOk Er Tryz.prog (Kept gl w) := Zb9 (by kernel_rfl) ((Zcc ext_ok).or (Zca.or tab_ok)) Zcb (fun _ _ _ h => h.1) (Zau hw).ext
def Ere : Env := Zdn Tryz.prog 12 [15, 115, 116, 119, 120, 82] (orSm (Zd2 kinds) (orSm (Zb7 15) tabSm))
theorem ere_ok (w : World) (hw : Zay gl w) : EnvOk Ere Tryz.prog (Kept gl w) := Zb9 (by kernel_rfl) ((Zcc ext_ok).or (Zca.or tab_ok)) Zcb (fun _ _ _ h => h.1) (Zau hw).ext
def go9 (t : Nat) (nm : List UInt8) (A B C D : Int) : Option AV := Zbo E3 100000 (.call 17 [.int .i64 (.ofNat t), insV nm A B C D (.ofNat 0)] (Zap 12 gl)) [] jO
def go9e (t : Nat) (nm : List UInt8) (A B C D : Int) : Option AV := Zbo E3e 100000 (.call 17 [.int .i64 (.ofNat t), insV nm A B C D (.ofNat 0)] (Zap 12 gl)) [] jO
def goc (t : Nat) (nm : List UInt8) (A B C D : Int) : Option AV := Zbo Er 100000 (.call 20 [.int .i64 (.ofNat t), insV nm A B C D (.ofNat 0)] (Zap 12 gl)) [] jK
def gor (nm : List UInt8) (A B C D : Int) : Option AV := Zbo Er 100000 (.call 42 [insV nm A B C D (.ofNat 0)] (Zap 12 gl)) [] jO
def gore (nm : List UInt8) (A B C D : Int) : Option AV := Zbo Ere 100000 (.call 42 [insV nm A B C D (.ofNat 0)] (Zap 12 gl)) [] jO
end
end Go.Proofs.YtbfdooplkdofeaaGreatDoor
