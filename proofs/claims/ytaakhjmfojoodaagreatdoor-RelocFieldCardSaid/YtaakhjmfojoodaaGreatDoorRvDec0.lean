/- riscv.Decode's pieces, as trees. -/
import Derived.Test.YtaakhjmfojoodaaGreatDoorRvLib0
namespace Go.Proofs.YtaakhjmfojoodaaGreatDoor
open Go Go.Vai
noncomputable section
set_option maxRecDepth 100000
def Xb:List (List UInt8×Int×Int):=[([97,100,100],.ofNat 0,.ofNat 51),([115,117,98],.ofNat 0,.ofNat 1073741875),([115,108,108],.ofNat 0,.ofNat 4147),([115,108,116],.ofNat 0,.ofNat 8243),([115,108,116,117],.ofNat 0,.ofNat 12339),([120,111,114],.ofNat 0,.ofNat 16435),([115,114,108],.ofNat 0,.ofNat 20531),([115,114,97],.ofNat 0,.ofNat 1073762355),([111,114],.ofNat 0,.ofNat 24627),([97,110,100],.ofNat 0,.ofNat 28723),([109,117,108],.ofNat 0,.ofNat 33554483),([109,117,108,104],.ofNat 0,.ofNat 33558579),([109,117,108,104,115,117],.ofNat 0,.ofNat 33562675),([109,117,108,104,117],.ofNat 0,.ofNat 33566771),([100,105,118],.ofNat 0,.ofNat 33570867),([100,105,118,117],.ofNat 0,.ofNat 33574963),([114,101,109],.ofNat 0,.ofNat 33579059),([114,101,109,117],.ofNat 0,.ofNat 33583155),([97,100,100,119],.ofNat 0,.ofNat 59),([115,117,98,119],.ofNat 0,.ofNat 1073741883),([115,108,108,119],.ofNat 0,.ofNat 4155),([115,114,108,119],.ofNat 0,.ofNat 20539),([115,114,97,119],.ofNat 0,.ofNat 1073762363),([109,117,108,119],.ofNat 0,.ofNat 33554491),([100,105,118,119],.ofNat 0,.ofNat 33570875),([100,105,118,117,119],.ofNat 0,.ofNat 33574971),([114,101,109,119],.ofNat 0,.ofNat 33579067),([114,101,109,117,119],.ofNat 0,.ofNat 33583163),([97,100,100,105],.ofNat 1,.ofNat 19),([115,108,116,105],.ofNat 1,.ofNat 8211),([115,108,116,105,117],.ofNat 1,.ofNat 12307),([120,111,114,105],.ofNat 1,.ofNat 16403),([111,114,105],.ofNat 1,.ofNat 24595),([97,110,100,105],.ofNat 1,.ofNat 28691),([97,100,100,105,119],.ofNat 1,.ofNat 27),([108,98],.ofNat 1,.ofNat 3),([108,104],.ofNat 1,.ofNat 4099),([108,119],.ofNat 1,.ofNat 8195),([108,100],.ofNat 1,.ofNat 12291),([108,98,117],.ofNat 1,.ofNat 16387),([108,104,117],.ofNat 1,.ofNat 20483),([108,119,117],.ofNat 1,.ofNat 24579),([106,97,108,114],.ofNat 1,.ofNat 103),([115,108,108,105],.ofNat 2,.ofNat 4115),([115,114,108,105],.ofNat 2,.ofNat 20499),([115,114,97,105],.ofNat 2,.ofNat 1073762323),([115,108,108,105,119],.ofNat 3,.ofNat 4123),([115,114,108,105,119],.ofNat 3,.ofNat 20507),([115,114,97,105,119],.ofNat 3,.ofNat 1073762331),([115,98],.ofNat 4,.ofNat 35),([115,104],.ofNat 4,.ofNat 4131),([115,119],.ofNat 4,.ofNat 8227),([115,100],.ofNat 4,.ofNat 12323),([98,101,113],.ofNat 5,.ofNat 99),([98,110,101],.ofNat 5,.ofNat 4195),([98,108,116],.ofNat 5,.ofNat 16483),([98,103,101],.ofNat 5,.ofNat 20579),([98,108,116,117],.ofNat 5,.ofNat 24675),([98,103,101,117],.ofNat 5,.ofNat 28771),([108,117,105],.ofNat 6,.ofNat 55),([97,117,105,112,99],.ofNat 6,.ofNat 23),([106,97,108],.ofNat 7,.ofNat 111),([101,99,97,108,108],.ofNat 8,.ofNat 115),([101,98,114,101,97,107],.ofNat 8,.ofNat 1048691)]
def Zid:Done:=⟨116,[],[12],.sl 12 0 64 (some 64),
[  ⟨192,163,none,0,false,false,[some (.str [97,100,100]),some (.int .i64 (0)),some (.int .u32 (51)),some (.str [115,117,98]),some (.int .i64 (0)),some (.int .u32 (1073741875)),some (.str [115,108,108]),some (.int .i64 (0)),some (.int .u32 (4147)),some (.str [115,108,116]),some (.int .i64 (0)),some (.int .u32 (8243)),some (.str [115,108,116,117]),some (.int .i64 (0)),some (.int .u32 (12339)),some (.str [120,111,114]),some (.int .i64 (0)),some (.int .u32 (16435)),some (.str [115,114,108]),some (.int .i64 (0)),some (.int .u32 (20531)),some (.str [115,114,97]),some (.int .i64 (0)),some (.int .u32 (1073762355)),some (.str [111,114]),some (.int .i64 (0)),some (.int .u32 (24627)),some (.str [97,110,100]),some (.int .i64 (0)),some (.int .u32 (28723)),some (.str [109,117,108]),some (.int .i64 (0)),some (.int .u32 (33554483)),some (.str [109,117,108,104]),some (.int .i64 (0)),some (.int .u32 (33558579)),some (.str [109,117,108,104,115,117]),some (.int .i64 (0)),some (.int .u32 (33562675)),some (.str [109,117,108,104,117]),some (.int .i64 (0)),some (.int .u32 (33566771)),some (.str [100,105,118]),some (.int .i64 (0)),some (.int .u32 (33570867)),some (.str [100,105,118,117]),some (.int .i64 (0)),some (.int .u32 (33574963)),some (.str [114,101,109]),some (.int .i64 (0)),some (.int .u32 (33579059)),some (.str [114,101,109,117]),some (.int .i64 (0)),some (.int .u32 (33583155)),some (.str [97,100,100,119]),some (.int .i64 (0)),some (.int .u32 (59)),some (.str [115,117,98,119]),some (.int .i64 (0)),some (.int .u32 (1073741883)),some (.str [115,108,108,119]),some (.int .i64 (0)),some (.int .u32 (4155)),some (.str [115,114,108,119]),some (.int .i64 (0)),some (.int .u32 (20539)),some (.str [115,114,97,119]),some (.int .i64 (0)),some (.int .u32 (1073762363)),some (.str [109,117,108,119]),some (.int .i64 (0)),some (.int .u32 (33554491)),some (.str [100,105,118,119]),some (.int .i64 (0)),some (.int .u32 (33570875)),some (.str [100,105,118,117,119]),some (.int .i64 (0)),some (.int .u32 (33574971)),some (.str [114,101,109,119]),some (.int .i64 (0)),some (.int .u32 (33579067)),some (.str [114,101,109,117,119]),some (.int .i64 (0)),some (.int .u32 (33583163)),some (.str [97,100,100,105]),some (.int .i64 (1)),some (.int .u32 (19)),some (.str [115,108,116,105]),some (.int .i64 (1)),some (.int .u32 (8211)),some (.str [115,108,116,105,117]),some (.int .i64 (1)),some (.int .u32 (12307)),some (.str [120,111,114,105]),some (.int .i64 (1)),some (.int .u32 (16403)),some (.str [111,114,105]),some (.int .i64 (1)),some (.int .u32 (24595)),some (.str [97,110,100,105]),some (.int .i64 (1)),some (.int .u32 (28691)),some (.str [97,100,100,105,119]),some (.int .i64 (1)),some (.int .u32 (27)),some (.str [108,98]),some (.int .i64 (1)),some (.int .u32 (3)),some (.str [108,104]),some (.int .i64 (1)),some (.int .u32 (4099)),some (.str [108,119]),some (.int .i64 (1)),some (.int .u32 (8195)),some (.str [108,100]),some (.int .i64 (1)),some (.int .u32 (12291)),some (.str [108,98,117]),some (.int .i64 (1)),some (.int .u32 (16387)),some (.str [108,104,117]),some (.int .i64 (1)),some (.int .u32 (20483)),some (.str [108,119,117]),some (.int .i64 (1)),some (.int .u32 (24579)),some (.str [106,97,108,114]),some (.int .i64 (1)),some (.int .u32 (103)),some (.str [115,108,108,105]),some (.int .i64 (2)),some (.int .u32 (4115)),some (.str [115,114,108,105]),some (.int .i64 (2)),some (.int .u32 (20499)),some (.str [115,114,97,105]),some (.int .i64 (2)),some (.int .u32 (1073762323)),some (.str [115,108,108,105,119]),some (.int .i64 (3)),some (.int .u32 (4123)),some (.str [115,114,108,105,119]),some (.int .i64 (3)),some (.int .u32 (20507)),some (.str [115,114,97,105,119]),some (.int .i64 (3)),some (.int .u32 (1073762331)),some (.str [115,98]),some (.int .i64 (4)),some (.int .u32 (35)),some (.str [115,104]),some (.int .i64 (4)),some (.int .u32 (4131)),some (.str [115,119]),some (.int .i64 (4)),some (.int .u32 (8227)),some (.str [115,100]),some (.int .i64 (4)),some (.int .u32 (12323)),some (.str [98,101,113]),some (.int .i64 (5)),some (.int .u32 (99)),some (.str [98,110,101]),some (.int .i64 (5)),some (.int .u32 (4195)),some (.str [98,108,116]),some (.int .i64 (5)),some (.int .u32 (16483)),some (.str [98,103,101]),some (.int .i64 (5)),some (.int .u32 (20579)),some (.str [98,108,116,117]),some (.int .i64 (5)),some (.int .u32 (24675)),some (.str [98,103,101,117]),some (.int .i64 (5)),some (.int .u32 (28771)),some (.str [108,117,105]),some (.int .i64 (6)),some (.int .u32 (55)),some (.str [97,117,105,112,99]),some (.int .i64 (6)),some (.int .u32 (23)),some (.str [106,97,108]),some (.int .i64 (7)),some (.int .u32 (111)),some (.str [101,99,97,108,108]),some (.int .i64 (8)),some (.int .u32 (115)),some (.str [101,98,114,101,97,107]),some (.int .i64 (8)),some (.int .u32 (1048691))]⟩]⟩
def Zm9:Tr AV:=Tr.nil.putAll 0 [.str [97,100,100],.int .i64 (.ofNat 0),.int .u32 (.ofNat 51),.str [115,117,98],.int .i64 (.ofNat 0),.int .u32 (.ofNat 1073741875),.str [115,108,108],.int .i64 (.ofNat 0),.int .u32 (.ofNat 4147),.str [115,108,116],.int .i64 (.ofNat 0),.int .u32 (.ofNat 8243),.str [115,108,116,117],.int .i64 (.ofNat 0),.int .u32 (.ofNat 12339),.str [120,111,114],.int .i64 (.ofNat 0),.int .u32 (.ofNat 16435),.str [115,114,108],.int .i64 (.ofNat 0),.int .u32 (.ofNat 20531),.str [115,114,97],.int .i64 (.ofNat 0),.int .u32 (.ofNat 1073762355),.str [111,114],.int .i64 (.ofNat 0),.int .u32 (.ofNat 24627),.str [97,110,100],.int .i64 (.ofNat 0),.int .u32 (.ofNat 28723),.str [109,117,108],.int .i64 (.ofNat 0),.int .u32 (.ofNat 33554483),.str [109,117,108,104],.int .i64 (.ofNat 0),.int .u32 (.ofNat 33558579),.str [109,117,108,104,115,117],.int .i64 (.ofNat 0),.int .u32 (.ofNat 33562675),.str [109,117,108,104,117],.int .i64 (.ofNat 0),.int .u32 (.ofNat 33566771),.str [100,105,118],.int .i64 (.ofNat 0),.int .u32 (.ofNat 33570867),.str [100,105,118,117],.int .i64 (.ofNat 0),.int .u32 (.ofNat 33574963),.str [114,101,109],.int .i64 (.ofNat 0),.int .u32 (.ofNat 33579059),.str [114,101,109,117],.int .i64 (.ofNat 0),.int .u32 (.ofNat 33583155),.str [97,100,100,119],.int .i64 (.ofNat 0),.int .u32 (.ofNat 59),.str [115,117,98,119],.int .i64 (.ofNat 0),.int .u32 (.ofNat 1073741883),.str [115,108,108,119],.int .i64 (.ofNat 0),.int .u32 (.ofNat 4155),.str [115,114,108,119],.int .i64 (.ofNat 0),.int .u32 (.ofNat 20539),.str [115,114,97,119],.int .i64 (.ofNat 0),.int .u32 (.ofNat 1073762363),.str [109,117,108,119],.int .i64 (.ofNat 0),.int .u32 (.ofNat 33554491),.str [100,105,118,119],.int .i64 (.ofNat 0),.int .u32 (.ofNat 33570875),.str [100,105,118,117,119],.int .i64 (.ofNat 0),.int .u32 (.ofNat 33574971),.str [114,101,109,119],.int .i64 (.ofNat 0),.int .u32 (.ofNat 33579067),.str [114,101,109,117,119],.int .i64 (.ofNat 0),.int .u32 (.ofNat 33583163),.str [97,100,100,105],.int .i64 (.ofNat 1),.int .u32 (.ofNat 19),.str [115,108,116,105],.int .i64 (.ofNat 1),.int .u32 (.ofNat 8211),.str [115,108,116,105,117],.int .i64 (.ofNat 1),.int .u32 (.ofNat 12307),.str [120,111,114,105],.int .i64 (.ofNat 1),.int .u32 (.ofNat 16403),.str [111,114,105],.int .i64 (.ofNat 1),.int .u32 (.ofNat 24595),.str [97,110,100,105],.int .i64 (.ofNat 1),.int .u32 (.ofNat 28691),.str [97,100,100,105,119],.int .i64 (.ofNat 1),.int .u32 (.ofNat 27),.str [108,98],.int .i64 (.ofNat 1),.int .u32 (.ofNat 3),.str [108,104],.int .i64 (.ofNat 1),.int .u32 (.ofNat 4099),.str [108,119],.int .i64 (.ofNat 1),.int .u32 (.ofNat 8195),.str [108,100],.int .i64 (.ofNat 1),.int .u32 (.ofNat 12291),.str [108,98,117],.int .i64 (.ofNat 1),.int .u32 (.ofNat 16387),.str [108,104,117],.int .i64 (.ofNat 1),.int .u32 (.ofNat 20483),.str [108,119,117],.int .i64 (.ofNat 1),.int .u32 (.ofNat 24579),.str [106,97,108,114],.int .i64 (.ofNat 1),.int .u32 (.ofNat 103),.str [115,108,108,105],.int .i64 (.ofNat 2),.int .u32 (.ofNat 4115),.str [115,114,108,105],.int .i64 (.ofNat 2),.int .u32 (.ofNat 20499),.str [115,114,97,105],.int .i64 (.ofNat 2),.int .u32 (.ofNat 1073762323),.str [115,108,108,105,119],.int .i64 (.ofNat 3),.int .u32 (.ofNat 4123),.str [115,114,108,105,119],.int .i64 (.ofNat 3),.int .u32 (.ofNat 20507),.str [115,114,97,105,119],.int .i64 (.ofNat 3),.int .u32 (.ofNat 1073762331),.str [115,98],.int .i64 (.ofNat 4),.int .u32 (.ofNat 35),.str [115,104],.int .i64 (.ofNat 4),.int .u32 (.ofNat 4131),.str [115,119],.int .i64 (.ofNat 4),.int .u32 (.ofNat 8227),.str [115,100],.int .i64 (.ofNat 4),.int .u32 (.ofNat 12323),.str [98,101,113],.int .i64 (.ofNat 5),.int .u32 (.ofNat 99),.str [98,110,101],.int .i64 (.ofNat 5),.int .u32 (.ofNat 4195),.str [98,108,116],.int .i64 (.ofNat 5),.int .u32 (.ofNat 16483),.str [98,103,101],.int .i64 (.ofNat 5),.int .u32 (.ofNat 20579),.str [98,108,116,117],.int .i64 (.ofNat 5),.int .u32 (.ofNat 24675),.str [98,103,101,117],.int .i64 (.ofNat 5),.int .u32 (.ofNat 28771),.str [108,117,105],.int .i64 (.ofNat 6),.int .u32 (.ofNat 55),.str [97,117,105,112,99],.int .i64 (.ofNat 6),.int .u32 (.ofNat 23),.str [106,97,108],.int .i64 (.ofNat 7),.int .u32 (.ofNat 111),.str [101,99,97,108,108],.int .i64 (.ofNat 8),.int .u32 (.ofNat 115),.str [101,98,114,101,97,107],.int .i64 (.ofNat 8),.int .u32 (.ofNat 1048691)]
theorem Z2e:pack Zid.keep (Z2p E1 100000 (.call 116 Zid.args (Yc 12 gl)))=some (Zid.v,Zid.os.map some):=by kernel_rfl
theorem Ztm:Zr Tryz.prog gl (J2 Zid):=Zkt (E:=E1) (n:=100000) Ky Ww (by kernel_rfl) (fun v hv=>by cases hv) (by have:=Z2e;rw[Zgl] at this;exact this) (by decide) (by kernel_rfl)
def EV:Env:=Q0 Tryz.prog 12 [149,150,151,152,155,111,112,117,116] (Z9 (Vy kinds) (Z9 (J2 Zid) (Z9 (Yo FT0) (Yo FT1))))
theorem Y0d(w:World)(hw:Z4 gl w):EnvOk EV Tryz.prog (Kept gl w):=Xv (by kernel_rfl) ((Xx V4).or (Ztm.or ((W4 Yge).or (W4 Z5u)))) Xw (fun _ _ _ h=>h.1) (Zz hw).ext
theorem Yex:Qq Zm9:=Xz (fun i v h=>by simp[Tr.get_nil] at h) (Zh rfl)
def fnD:AFunc:=(EV.fn 71).getD default
theorem Y2t:EV.fn 71=some fnD:=by kernel_rfl
abbrev Zs0:Code:=Zxr [4,0] fnD.body
theorem Y80:flat fnD.body=(flat fnD.body).take 3++((flat fnD.body).drop 3).take 1++.block 1 (.loop Zs0)::(flat fnD.body).drop 5:=by kernel_rfl
def K1(T:Tr AV):AObj:=.cells 6 T 35 none 0 false false
def Zhp:AObj:=.cells 192 Zm9 163 none 0 false false
def SD0:List Nat:=[4,5,6,7]
def SD:List Nat:=[4,5,6,7,57,58,59]
def vD(w:Int)(j:Nat):List AV:=[.ptr 12 0,.int .i64 (.ofNat 0),.int .i64 (.ofNat 0),.int .u32 w,.sl 13 0 64 (some 64),.int .i64 (.ofNat 64),.int .i64 (.ofNat j)]
def Zbq:Tr AV:=Tr.nil.putAll 0 [.str [],.int .i64 (.ofNat 0),.int .i64 (.ofNat 0),.int .i64 (.ofNat 0),.int .i64 (.ofNat 0),.int .i64 (.ofNat 0)]
def kd1:List Nat:=[0,1,2,3,4,5,6,7,8,9,10,11,13]
def kd2:List Nat:=[0,1,2,3,4,5,6,7,8,9,10,11,12,13]
def kd0:List Nat:=[0,1,2,3,4,5,6,7,8,9,10,11,12]
def Y0s(o l n:Nat)(at_:Int)(T:Tr AV):Option Leaf:=bc (Z2 at_ (.ofNat 0)) (lf .ret 80 [some (.ptr 12 0),some (.int .i64 (.ofNat 0)),some (.int .i64 (.ofNat 5)),none] [some (.cells 6 Zbq 35 none 0 false false)]) (bc (Z2 (.ofNat l) at_) (lf .ret 80 [some (.ptr 12 0),some (.int .i64 (.ofNat 0)),some (.int .i64 (.ofNat 5)),none] [some (.cells 6 Zbq 35 none 0 false false)]) (bc (Z2 (Za .i64 (Int.sub (.ofNat l) at_)) (.ofNat 4)) (lf .ret 80 [some (.ptr 12 0),some (.int .i64 (.ofNat 0)),some (.int .i64 (.ofNat 2)),none] [some (.cells 6 Zbq 35 none 0 false false)]) (bc (Z2 at_ (.ofNat 0)) (none) (bc (Nat.blt (Int.toNat at_) l) (bc (Vs .u8 (Tr.get T (Nat.add o (Nat.mul (Int.toNat at_) 1)))) (bc (Z2 (Za .i64 (Int.add at_ (.ofNat 1))) (.ofNat 0)) (none) (bc (Nat.blt (Int.toNat (Za .i64 (Int.add at_ (.ofNat 1)))) l) (bc (Vs .u8 (Tr.get T (Nat.add o (Nat.mul (Int.toNat (Za .i64 (Int.add at_ (.ofNat 1)))) 1)))) (bc (Z2 (Za .i64 (Int.add at_ (.ofNat 2))) (.ofNat 0)) (none) (bc (Nat.blt (Int.toNat (Za .i64 (Int.add at_ (.ofNat 2)))) l) (bc (Vs .u8 (Tr.get T (Nat.add o (Nat.mul (Int.toNat (Za .i64 (Int.add at_ (.ofNat 2)))) 1)))) (bc (Z2 (Za .i64 (Int.add at_ (.ofNat 3))) (.ofNat 0)) (none) (bc (Nat.blt (Int.toNat (Za .i64 (Int.add at_ (.ofNat 3)))) l) (bc (Vs .u8 (Tr.get T (Nat.add o (Nat.mul (Int.toNat (Za .i64 (Int.add at_ (.ofNat 3)))) 1)))) (lf .normal 80 [some (.ptr 12 0),some (.int .i64 (.ofNat 0)),some (.int .i64 (.ofNat 0)),some (.int .u32 (Za .u32 (Zw .u32 (Za .u32 (Zw .u32 (Za .u32 (Zw .u32 (Za .u32 (Zl (Tr.get T (Nat.add o (Nat.mul (Int.toNat at_) 1))))) (Za .u32 (Zf (Za .u32 (Zl (Tr.get T (Nat.add o (Nat.mul (Int.toNat (Za .i64 (Int.add at_ (.ofNat 1)))) 1))))) 8)))) (Za .u32 (Zf (Za .u32 (Zl (Tr.get T (Nat.add o (Nat.mul (Int.toNat (Za .i64 (Int.add at_ (.ofNat 2)))) 1))))) 16)))) (Za .u32 (Zf (Za .u32 (Zl (Tr.get T (Nat.add o (Nat.mul (Int.toNat (Za .i64 (Int.add at_ (.ofNat 3)))) 1))))) 24)))))] [some (.cells 6 Zbq 35 none 0 false false)]) (none)) (none))) (none)) (none))) (none)) (none))) (none)) (none)))))
def Y83(S:List UInt8)(F W:Int)(w:Int)(j:Nat)(T4 TR:Tr AV):Option Leaf:=bc (Nat.blt j 64) (bc (Nat.blt j 64) (bc (isS (Tr.get TR (Nat.add 0 (Nat.mul j 3)))) (bc (Vs .i64 (Tr.get TR (Nat.succ (Nat.add 0 (Nat.mul j 3))))) (bc (Vs .u32 (Tr.get TR (Nat.succ (Nat.succ (Nat.add 0 (Nat.mul j 3)))))) (bc (!(Zd (Za .u32 (Ze .u32 W (.ofNat 127))) (Za .u32 (Ze .u32 w (.ofNat 127))))) (lf .normal 80 [some (.ptr 12 0),some (.int .i64 (.ofNat 0)),some (.int .i64 (.ofNat 0)),some (.int .u32 w),some (.sl 13 0 64 (some 64)),some (.int .i64 (.ofNat 64)),some (.int .i64 (up j))] [some (.cells 6 T4 35 none 0 false false),some (.cells 192 TR 163 none 0 false false)]) (bc (Zd (Xp S F W (Zdj S F W w) (K5 S F W w) (K4 S F W w) (K2 S F W w) (Zaj S F W w) (Zeh S F W w)) w) (lf .ret 80 [some (.ptr 12 0),some (.int .i64 (.ofNat 4)),some (.int .i64 (.ofNat 0)),some (.int .u32 w),some (.sl 13 0 64 (some 64)),some (.int .i64 (.ofNat 64)),some (.int .i64 (.ofNat j))] [some (.cells 6 (Tr.putAll T4 0 [.str (Zdj S F W w),.int .i64 (K5 S F W w),.int .i64 (K4 S F W w),.int .i64 (K2 S F W w),.int .i64 (Zaj S F W w),.int .i64 (Zeh S F W w)]) 35 none 0 false false),some (.cells 192 TR 163 none 0 false false)]) (lf .normal 80 [some (.ptr 12 0),some (.int .i64 (.ofNat 0)),some (.int .i64 (.ofNat 0)),some (.int .u32 w),some (.sl 13 0 64 (some 64)),some (.int .i64 (.ofNat 64)),some (.int .i64 (up j))] [some (.cells 6 T4 35 none 0 false false),some (.cells 192 TR 163 none 0 false false)]))) (none)) (none)) (none)) (none)) (lf (.exit 1) 80 [some (.ptr 12 0),some (.int .i64 (.ofNat 0)),some (.int .i64 (.ofNat 0)),some (.int .u32 w),some (.sl 13 0 64 (some 64)),some (.int .i64 (.ofNat 64)),some (.int .i64 (.ofNat j))] [some (.cells 6 T4 35 none 0 false false),some (.cells 192 TR 163 none 0 false false)])
theorem Y9o(o l c n:Nat)(at_:Int)(T:Tr AV):Z6 EV (Yu EV 3) ((flat fnD.body).take 3) (Yy 12 SD0 kd1) (Qa fnD [.sl 12 o l (some c),.int .i64 at_]) (Xm 12 [.cells n T 0 none 0 true false])=Y0s o l n at_ T:=by kernel_rfl
theorem Y8y(w:Int)(T4:Tr AV):Z6 EV (Yu EV 3) (((flat fnD.body).drop 3).take 1) (Yy 12 SD kd2) (Yx 80 SD0 [.ptr 12 0,.int .i64 (.ofNat 0),.int .i64 (.ofNat 0),.int .u32 w]) (Xm 12 [K1 T4])=lf .normal 80 [some (.ptr 12 0),some (.int .i64 (.ofNat 0)),some (.int .i64 (.ofNat 0)),some (.int .u32 w),some (.sl 13 0 64 (some 64)),some (.int .i64 (.ofNat 64)),some (.int .i64 (.ofNat 0))] [some (.cells 6 T4 35 none 0 false false),some (.cells 192 Zm9 163 none 0 false false)]:=by kernel_rfl
theorem Yz8(w:Int)(j:Nat)(T4 TR:Tr AV):Z6 EV (Yu EV 3) (flat Zs0) (Yy 12 SD kd2) (Yx 80 SD (vD w j)) (Xm 12 [K1 T4,.cells 192 TR 163 none 0 false false])=Y83 (asS (Tr.get TR (Nat.add 0 (Nat.mul j 3)))) (Zl (Tr.get TR (Nat.succ (Nat.add 0 (Nat.mul j 3))))) (Zl (Tr.get TR (Nat.succ (Nat.succ (Nat.add 0 (Nat.mul j 3)))))) w j T4 TR:=by kernel_rfl
theorem Y8b(w:Int)(j:Nat)(T4 TR:Tr AV):Z6 EV (Yu EV 3) ((flat fnD.body).drop 5) (Yy 12 [4,5,6] kd0) (Yx 80 SD (vD w j)) (Xm 12 [K1 T4,.cells 192 TR 163 none 0 false false])=lf .ret 80 [some (.ptr 12 0),some (.int .i64 (.ofNat 0)),some (.int .i64 (.ofNat 22))] [some (.cells 6 (Tr.putAll T4 0 [.str [],.int .i64 (.ofNat 0),.int .i64 (.ofNat 0),.int .i64 (.ofNat 0),.int .i64 (.ofNat 0),.int .i64 (.ofNat 0)]) 35 none 0 false false)]:=by kernel_rfl
end
end Go.Proofs.YtaakhjmfojoodaaGreatDoor
namespace Go.Proofs.YtaakhjmfojoodaaGreatDoor
open Go Go.Vai
noncomputable section
set_option maxRecDepth 100000
abbrev Zc6:Type:=List UInt8×Int×Int
def Qd(w:Int)(x:Zc6):Bool:=Zd (Za .u32 (Ze .u32 x.2.2 (.ofNat 127))) (Za .u32 (Ze .u32 w (.ofNat 127)))&&Zd (Xp x.1 x.2.1 x.2.2 (Zdj x.1 x.2.1 x.2.2 w) (K5 x.1 x.2.1 x.2.2 w) (K4 x.1 x.2.1 x.2.2 w) (K2 x.1 x.2.1 x.2.2 w) (Zaj x.1 x.2.1 x.2.2 w) (Zeh x.1 x.2.1 x.2.2 w)) w
def Zoj(w:Int)(x:Zc6):List AV:=[.str (Zdj x.1 x.2.1 x.2.2 w),.int .i64 (K5 x.1 x.2.1 x.2.2 w),.int .i64 (K4 x.1 x.2.1 x.2.2 w),.int .i64 (K2 x.1 x.2.1 x.2.2 w),.int .i64 (Zaj x.1 x.2.1 x.2.2 w),.int .i64 (Zeh x.1 x.2.1 x.2.2 w)]
def Yr8:List AV:=[.str [],.int .i64 (.ofNat 0),.int .i64 (.ofNat 0),.int .i64 (.ofNat 0),.int .i64 (.ofNat 0),.int .i64 (.ofNat 0)]
def Zt9(w:Int):Option Zc6→AV
 |some x=>.tup [.agg (Zoj w x),.int .i64 (.ofNat 4),.int .i64 (.ofNat 0)]
 |none=>.tup [.agg Yr8,.int .i64 (.ofNat 0),.int .i64 (.ofNat 22)]
theorem Zyd{α:Type}{p:α→Bool}:∀{l:List α}{j:Nat}{x:α},l[j]?=some x→p x=true→(∀ i,i<j→∀ y,l[i]?=some y→p y=false)→l.find? p=some x
 |[],_,_,h,_,_=>by simp at h
 |y::l,0,x,h,hx,_=>by
  simp only[List.getElem?_cons_zero,Option.some.injEq] at h
  subst h
  simp[List.find?,hx]
 |y::l,j+1,x,h,hx,hn=>by
  have h0:=hn 0 (by omega) y rfl
  simp only[List.find?,h0]
  exact Zyd (by simpa using h) hx fun i hi z hz=>hn (i+1) (by omega) z (by simpa using hz)
def isO(o:Option AV)(v:AV):Bool:=match o with
 |some u=>AV.eqb u v
 |none=>false
theorem Z1w{o:Option AV}{v:AV}(h:isO o v=true):o=some v:=by
 unfold isO at h
 split at h
 ·rw[Zl6 _ _ h]
 ·cases h
def Yid(j:Nat):Bool:=match Xb[j]? with
 |some x=>isO (Tr.get Zm9 (Nat.add 0 (Nat.mul j 3))) (.str x.1)&&(isO (Tr.get Zm9 (Nat.succ (Nat.add 0 (Nat.mul j 3)))) (.int .i64 x.2.1)&&isO (Tr.get Zm9 (Nat.succ (Nat.succ (Nat.add 0 (Nat.mul j 3))))) (.int .u32 x.2.2))
 |none=>false
theorem rows_ok:(List.range 64).all Yid=true:=by kernel_rfl
theorem Y1n{j:Nat}(hj:j<64):∃ x,Xb[j]?=some x∧Tr.get Zm9 (Nat.add 0 (Nat.mul j 3))=some (.str x.1)∧Tr.get Zm9 (Nat.succ (Nat.add 0 (Nat.mul j 3)))=some (.int .i64 x.2.1)∧Tr.get Zm9 (Nat.succ (Nat.succ (Nat.add 0 (Nat.mul j 3))))=some (.int .u32 x.2.2):=by
 have h:=List.all_eq_true.1 rows_ok j (List.mem_range.2 hj)
 unfold Yid at h
 split at h
 ·rename_i x hx
  simp only[Bool.and_eq_true] at h
  exact⟨x,hx,Z1w h.1,Z1w h.2.1,Z1w h.2.2⟩
 ·cases h
theorem Z06:Xb.length=64:=by kernel_rfl
def vDr(w:Int)(j:Nat)(x:Zc6):List AV:=[.ptr 12 0,.int .i64 (.ofNat 4),.int .i64 (.ofNat 0),.int .u32 w,.sl 13 0 64 (some 64),.int .i64 (.ofNat 64),.int .i64 (.ofNat j)]
theorem Yay(k:IntKind):sameKind k k=true:=by simp[sameKind]
theorem Yvy{w:Int}{j:Nat}{T4:Tr AV}(hj:j<64):∃ x,Xb[j]?=some x∧Z6 EV (Yu EV 3) (flat Zs0) (Yy 12 SD kd2) (Yx 80 SD (vD w j)) (Xm 12 [K1 T4,Zhp]) =
  bif Qd w x then lf .ret 80 ((vDr w j x).map some) ([K1 (Tr.putAll T4 0 (Zoj w x)),Zhp].map some) else lf .normal 80 ((vD w (j+1)).map some) ([K1 T4,Zhp].map some):=by
 obtain⟨x,hx,h1,h2,h3⟩:=Y1n hj
 refine⟨x,hx,?_⟩
 have e:=Yz8 w j T4 Zm9
 rw[h1,h2,h3] at e
 refine e.trans ?_
 have u:=Y0c (k:=j) (by omega)
 unfold Y83
 simp only[h1,h2,h3,Yzt hj,isS,Vs,asS,Zl,Yay,Ym,u]
 unfold Qd
 cases Zd (Za .u32 (Ze .u32 x.2.2 (.ofNat 127))) (Za .u32 (Ze .u32 w (.ofNat 127))) with
 |false=>rfl
 |true=>
  simp only[Bool.not_true,Yg,Bool.true_and]
  cases Zd (Xp x.1 x.2.1 x.2.2 (Zdj x.1 x.2.1 x.2.2 w) (K5 x.1 x.2.1 x.2.2 w) (K4 x.1 x.2.1 x.2.2 w) (K2 x.1 x.2.1 x.2.2 w) (Zaj x.1 x.2.1 x.2.2 w) (Zeh x.1 x.2.1 x.2.2 w)) w <;> rfl
theorem Y03{w:Int}{T4:Tr AV}:Z6 EV (Yu EV 3) (flat Zs0) (Yy 12 SD kd2) (Yx 80 SD (vD w 64)) (Xm 12 [K1 T4,Zhp])=lf (.exit 1) 80 ((vD w 64).map some) ([K1 T4,Zhp].map some):=by
 refine(Yz8 w 64 T4 Zm9).trans ?_
 rfl
theorem Z9m{T1:Tr AV}(h1:Qq T1){keep:List Nat}:∀(j:Nat)(o o2:AObj),[K1 T1,Zhp][j]?=some o→[K1 T1,Zhp][j]?=some o2→Zcr 0 keep o o2:=by
 intro j o o2 e1 e2
 rw[e1] at e2;cases e2
 match j,e1 with
 |0,e=>cases e;exact Qs h1
 |1,e=>cases e;exact Qs Yex
 |j+2,e=>simp at e
theorem Yy8{T1:Tr AV}(h1:Qq T1){keep:List Nat}:∀(j:Nat)(o o2:AObj),[K1 T1][j]?=some o→[K1 T1][j]?=some o2→Zcr 0 keep o o2:=by
 intro j o o2 e1 e2
 rw[e1] at e2;cases e2
 match j,e1 with
 |0,e=>cases e;exact Qs h1
 |j+1,e=>simp at e
theorem Zak:Qq Zbq:=Xz (fun i v h=>by simp[Tr.get_nil] at h) (Zh rfl)
theorem Ydh(w:Int)(x:Zc6):Qq (Tr.putAll Zbq 0 (Zoj w x)):=Xz Zak (Zh rfl)
theorem Yxy(w:Int)(x:Zc6)(j:Nat)(o2:AObj):K7 EV (Yx 80 SD (vDr w j x)).t (Xm 12 [K1 (Tr.putAll Zbq 0 (Zoj w x)),o2]) fnD.results=some [.agg (Zoj w x),.int .i64 (.ofNat 4),.int .i64 (.ofNat 0)]:=by kernel_rfl
theorem Yjt:K7 EV (Yx 80 [4,5,6] [.ptr 12 0,.int .i64 (.ofNat 0),.int .i64 (.ofNat 22)]).t (Xm 12 [K1 (Tr.putAll Zbq 0 Yr8)]) fnD.results=some [.agg Yr8,.int .i64 (.ofNat 0),.int .i64 (.ofNat 22)]:=by kernel_rfl
section
variable {P:Program} {I:List MEnt→AHeap→World→Prop} {ro:Option Nat}
def Y8g(u:AV):TQ:=fun e fr H=>(e=.normal∨e=.ret)∧fr.df=[]∧∃ keep fr' H' l,Ren 12 keep fr H fr' H'∧K7 EV fr'.t H' fnD.results=some l∧Zn9 l=u
theorem Yjj(hE:EnvOk EV P I)(hI:Carried I)(w:Int):Tri EV P I ro (.loop Zs0) (Yx 80 SD (vD w 0)) (Xm 12 [K1 Zbq,Zhp]) fun e fr H=>
  (e=.exit 1∧Xb.find? (Qd w)=none∧Ren 12 kd2 fr H (Yx 80 SD (vD w 64)) (Xm 12 [K1 Zbq,Zhp]))∨(e=.ret∧∃ x j,Xb.find? (Qd w)=some x∧Ren 12 kd2 fr H (Yx 80 SD (vDr w j x)) (Xm 12 [K1 (Tr.putAll Zbq 0 (Zoj w x)),Zhp])):=by
 refine Tri.loop (X:=Nat) (fr:=fun j=>Yx 80 SD (vD w j)) (H:=fun _=>Xm 12 [K1 Zbq,Zhp]) (Inv:=fun j=>j≤64∧∀ i,i<j→∀ y,Xb[i]?=some y→Qd w y=false) (fun j=>64 - j) hI ?_ 0 ⟨Nat.zero_le _,fun i hi=>by omega⟩
 rintro j ⟨hj,hn⟩
 refine Jb _ ?_
 by_cases h:j<64
 ·obtain⟨x,hx,e⟩:=Yvy (w:=w) (T4:=Zbq) h
  cases hb:Qd w x with
  |false=>
   rw[hb] at e
   exact Xy.leafC hE (Vd EV 3) e (by decide) rfl rfl (Z9m Zak) fun fr' H' r=>.inl ⟨rfl,j+1,kd2,⟨h,fun i hi y hy=>by
    by_cases e2:i=j
    ·subst e2;rw[hx] at hy;cases hy;exact hb
    ·exact hn i (by omega) y hy⟩,by omega,r⟩
  |true=>
   rw[hb] at e
   exact Xy.leafC hE (Vd EV 3) e (by decide) rfl rfl (Z9m (Ydh w x)) fun fr' H' r=>.inr ⟨(by intro h;cases h),.inr ⟨rfl,x,j,Zyd hx hb hn,r⟩⟩
 ·obtain rfl:j=64:=by omega
  refine Xy.leafC hE (Vd EV 3) Y03 (by decide) rfl rfl (Z9m Zak) fun fr' H' r=>.inr ⟨(by intro h;cases h),.inl ⟨rfl,?_,r⟩⟩
  rw[List.find?_eq_none]
  intro y hy
  obtain⟨i,hi,e⟩:=List.getElem_of_mem hy
  rw[hn i (by rw[←Z06];exact hi) y (by rw[List.getElem?_eq_getElem hi,e])]
  simp
theorem Yry(hE:EnvOk EV P I)(hI:Carried I)(w:Int):Xy EV P I ro (((flat fnD.body).drop 3).take 1++.block 1 (.loop Zs0)::(flat fnD.body).drop 5) (Yx 80 SD0 [.ptr 12 0,.int .i64 (.ofNat 0),.int .i64 (.ofNat 0),.int .u32 w]) (Xm 12 [K1 Zbq]) (Y8g (Zt9 w (Xb.find? (Qd w)))):=by
 refine Xy.leafXC hE hI (Vd EV 3) (vs:=vD w 0) (os:=[K1 Zbq,Zhp]) (os2:=[K1 Zbq,Zhp]) (Y8y w Zbq) (by decide) rfl rfl (Z9m Zak) (.inl ⟨rfl,?_⟩)
 refine Tri.mono (Tri.block (Q:=fun e fr H=>(e=.normal∧Xb.find? (Qd w)=none∧Ren 12 kd2 fr H (Yx 80 SD (vD w 64)) (Xm 12 [K1 Zbq,Zhp]))∨(e=.ret∧∃ x j,Xb.find? (Qd w)=some x∧Ren 12 kd2 fr H (Yx 80 SD (vDr w j x)) (Xm 12 [K1 (Tr.putAll Zbq 0 (Zoj w x)),Zhp]))) ((Yjj hE hI w).mono ?_)) ?_
 ·rintro e fr H (⟨rfl,h⟩ | ⟨rfl,h⟩)
  ·exact .inl ⟨rfl,h⟩
  ·exact .inr ⟨rfl,h⟩
 ·rintro e fr H (⟨rfl,hf,r⟩ | ⟨rfl,x,j,hf,r⟩)
  ·refine .inl ⟨rfl,Xy.ren hI r ?_⟩
   rw[hf]
   exact Xy.leafC hE (Vd EV 3) (vs:=[.ptr 12 0,.int .i64 (.ofNat 0),.int .i64 (.ofNat 22)]) (os:=[K1 (Tr.putAll Zbq 0 Yr8)]) (os2:=[K1 (Tr.putAll Zbq 0 Yr8)]) (Y8b w 64 Zbq Zm9) (by decide) rfl rfl (Yy8 (Xz Zak (Zh rfl))) fun fr' H' r=>⟨.inr rfl,r.df.1,_,_,_,_,r,Yjt,rfl⟩
  ·refine .inr ⟨(by intro h;cases h),.inr rfl,r.df.1,_,_,_,_,r,Yxy w x j Zhp,?_⟩
   rw[hf];rfl
end
end
end Go.Proofs.YtaakhjmfojoodaaGreatDoor
namespace Go.Proofs.YtaakhjmfojoodaaGreatDoor
open Go Go.Vai
noncomputable section
set_option maxRecDepth 100000
theorem Y45(a:Int):∃ k:Nat,k≤127∧Za .i64 (Ze .i64 a (.ofNat 127))=.ofNat k:=
 ⟨Nat.land (bitsOf .i64 a) (bitsOf .i64 (.ofNat 127)),Nat.le_trans Nat.and_le_right (by decide),Zb8 (Nat.lt_of_le_of_lt Nat.and_le_right (by decide))⟩
def ocT(x:Int):Option AV:=some (.int .i64 (Za .i64 (Ze .i64 (Za .i64 (Za .u64 (Int.add (Za .u64 (Int.add (Za .u64 (Int.add (Za .u64 (Ze .u64 (Za .u64 (Int.add (Zc (Za .u64 (Int.add (Za .u64 (Ze .u64 (Zc (Za .u64 (Int.add (Za .u64 (Ze .u64 (Zc x 1) (.ofNat 6148914691236517205))) (Za .u64 (Ze .u64 x (.ofNat 6148914691236517205))))) 2) (.ofNat 3689348814741910323))) (Za .u64 (Ze .u64 (Za .u64 (Int.add (Za .u64 (Ze .u64 (Zc x 1) (.ofNat 6148914691236517205))) (Za .u64 (Ze .u64 x (.ofNat 6148914691236517205))))) (.ofNat 3689348814741910323))))) 4) (Za .u64 (Int.add (Za .u64 (Ze .u64 (Zc (Za .u64 (Int.add (Za .u64 (Ze .u64 (Zc x 1) (.ofNat 6148914691236517205))) (Za .u64 (Ze .u64 x (.ofNat 6148914691236517205))))) 2) (.ofNat 3689348814741910323))) (Za .u64 (Ze .u64 (Za .u64 (Int.add (Za .u64 (Ze .u64 (Zc x 1) (.ofNat 6148914691236517205))) (Za .u64 (Ze .u64 x (.ofNat 6148914691236517205))))) (.ofNat 3689348814741910323))))))) (.ofNat 1085102592571150095))) (Zc (Za .u64 (Ze .u64 (Za .u64 (Int.add (Zc (Za .u64 (Int.add (Za .u64 (Ze .u64 (Zc (Za .u64 (Int.add (Za .u64 (Ze .u64 (Zc x 1) (.ofNat 6148914691236517205))) (Za .u64 (Ze .u64 x (.ofNat 6148914691236517205))))) 2) (.ofNat 3689348814741910323))) (Za .u64 (Ze .u64 (Za .u64 (Int.add (Za .u64 (Ze .u64 (Zc x 1) (.ofNat 6148914691236517205))) (Za .u64 (Ze .u64 x (.ofNat 6148914691236517205))))) (.ofNat 3689348814741910323))))) 4) (Za .u64 (Int.add (Za .u64 (Ze .u64 (Zc (Za .u64 (Int.add (Za .u64 (Ze .u64 (Zc x 1) (.ofNat 6148914691236517205))) (Za .u64 (Ze .u64 x (.ofNat 6148914691236517205))))) 2) (.ofNat 3689348814741910323))) (Za .u64 (Ze .u64 (Za .u64 (Int.add (Za .u64 (Ze .u64 (Zc x 1) (.ofNat 6148914691236517205))) (Za .u64 (Ze .u64 x (.ofNat 6148914691236517205))))) (.ofNat 3689348814741910323))))))) (.ofNat 1085102592571150095))) 8))) (Zc (Za .u64 (Int.add (Za .u64 (Ze .u64 (Za .u64 (Int.add (Zc (Za .u64 (Int.add (Za .u64 (Ze .u64 (Zc (Za .u64 (Int.add (Za .u64 (Ze .u64 (Zc x 1) (.ofNat 6148914691236517205))) (Za .u64 (Ze .u64 x (.ofNat 6148914691236517205))))) 2) (.ofNat 3689348814741910323))) (Za .u64 (Ze .u64 (Za .u64 (Int.add (Za .u64 (Ze .u64 (Zc x 1) (.ofNat 6148914691236517205))) (Za .u64 (Ze .u64 x (.ofNat 6148914691236517205))))) (.ofNat 3689348814741910323))))) 4) (Za .u64 (Int.add (Za .u64 (Ze .u64 (Zc (Za .u64 (Int.add (Za .u64 (Ze .u64 (Zc x 1) (.ofNat 6148914691236517205))) (Za .u64 (Ze .u64 x (.ofNat 6148914691236517205))))) 2) (.ofNat 3689348814741910323))) (Za .u64 (Ze .u64 (Za .u64 (Int.add (Za .u64 (Ze .u64 (Zc x 1) (.ofNat 6148914691236517205))) (Za .u64 (Ze .u64 x (.ofNat 6148914691236517205))))) (.ofNat 3689348814741910323))))))) (.ofNat 1085102592571150095))) (Zc (Za .u64 (Ze .u64 (Za .u64 (Int.add (Zc (Za .u64 (Int.add (Za .u64 (Ze .u64 (Zc (Za .u64 (Int.add (Za .u64 (Ze .u64 (Zc x 1) (.ofNat 6148914691236517205))) (Za .u64 (Ze .u64 x (.ofNat 6148914691236517205))))) 2) (.ofNat 3689348814741910323))) (Za .u64 (Ze .u64 (Za .u64 (Int.add (Za .u64 (Ze .u64 (Zc x 1) (.ofNat 6148914691236517205))) (Za .u64 (Ze .u64 x (.ofNat 6148914691236517205))))) (.ofNat 3689348814741910323))))) 4) (Za .u64 (Int.add (Za .u64 (Ze .u64 (Zc (Za .u64 (Int.add (Za .u64 (Ze .u64 (Zc x 1) (.ofNat 6148914691236517205))) (Za .u64 (Ze .u64 x (.ofNat 6148914691236517205))))) 2) (.ofNat 3689348814741910323))) (Za .u64 (Ze .u64 (Za .u64 (Int.add (Za .u64 (Ze .u64 (Zc x 1) (.ofNat 6148914691236517205))) (Za .u64 (Ze .u64 x (.ofNat 6148914691236517205))))) (.ofNat 3689348814741910323))))))) (.ofNat 1085102592571150095))) 8))) 16))) (Zc (Za .u64 (Int.add (Za .u64 (Int.add (Za .u64 (Ze .u64 (Za .u64 (Int.add (Zc (Za .u64 (Int.add (Za .u64 (Ze .u64 (Zc (Za .u64 (Int.add (Za .u64 (Ze .u64 (Zc x 1) (.ofNat 6148914691236517205))) (Za .u64 (Ze .u64 x (.ofNat 6148914691236517205))))) 2) (.ofNat 3689348814741910323))) (Za .u64 (Ze .u64 (Za .u64 (Int.add (Za .u64 (Ze .u64 (Zc x 1) (.ofNat 6148914691236517205))) (Za .u64 (Ze .u64 x (.ofNat 6148914691236517205))))) (.ofNat 3689348814741910323))))) 4) (Za .u64 (Int.add (Za .u64 (Ze .u64 (Zc (Za .u64 (Int.add (Za .u64 (Ze .u64 (Zc x 1) (.ofNat 6148914691236517205))) (Za .u64 (Ze .u64 x (.ofNat 6148914691236517205))))) 2) (.ofNat 3689348814741910323))) (Za .u64 (Ze .u64 (Za .u64 (Int.add (Za .u64 (Ze .u64 (Zc x 1) (.ofNat 6148914691236517205))) (Za .u64 (Ze .u64 x (.ofNat 6148914691236517205))))) (.ofNat 3689348814741910323))))))) (.ofNat 1085102592571150095))) (Zc (Za .u64 (Ze .u64 (Za .u64 (Int.add (Zc (Za .u64 (Int.add (Za .u64 (Ze .u64 (Zc (Za .u64 (Int.add (Za .u64 (Ze .u64 (Zc x 1) (.ofNat 6148914691236517205))) (Za .u64 (Ze .u64 x (.ofNat 6148914691236517205))))) 2) (.ofNat 3689348814741910323))) (Za .u64 (Ze .u64 (Za .u64 (Int.add (Za .u64 (Ze .u64 (Zc x 1) (.ofNat 6148914691236517205))) (Za .u64 (Ze .u64 x (.ofNat 6148914691236517205))))) (.ofNat 3689348814741910323))))) 4) (Za .u64 (Int.add (Za .u64 (Ze .u64 (Zc (Za .u64 (Int.add (Za .u64 (Ze .u64 (Zc x 1) (.ofNat 6148914691236517205))) (Za .u64 (Ze .u64 x (.ofNat 6148914691236517205))))) 2) (.ofNat 3689348814741910323))) (Za .u64 (Ze .u64 (Za .u64 (Int.add (Za .u64 (Ze .u64 (Zc x 1) (.ofNat 6148914691236517205))) (Za .u64 (Ze .u64 x (.ofNat 6148914691236517205))))) (.ofNat 3689348814741910323))))))) (.ofNat 1085102592571150095))) 8))) (Zc (Za .u64 (Int.add (Za .u64 (Ze .u64 (Za .u64 (Int.add (Zc (Za .u64 (Int.add (Za .u64 (Ze .u64 (Zc (Za .u64 (Int.add (Za .u64 (Ze .u64 (Zc x 1) (.ofNat 6148914691236517205))) (Za .u64 (Ze .u64 x (.ofNat 6148914691236517205))))) 2) (.ofNat 3689348814741910323))) (Za .u64 (Ze .u64 (Za .u64 (Int.add (Za .u64 (Ze .u64 (Zc x 1) (.ofNat 6148914691236517205))) (Za .u64 (Ze .u64 x (.ofNat 6148914691236517205))))) (.ofNat 3689348814741910323))))) 4) (Za .u64 (Int.add (Za .u64 (Ze .u64 (Zc (Za .u64 (Int.add (Za .u64 (Ze .u64 (Zc x 1) (.ofNat 6148914691236517205))) (Za .u64 (Ze .u64 x (.ofNat 6148914691236517205))))) 2) (.ofNat 3689348814741910323))) (Za .u64 (Ze .u64 (Za .u64 (Int.add (Za .u64 (Ze .u64 (Zc x 1) (.ofNat 6148914691236517205))) (Za .u64 (Ze .u64 x (.ofNat 6148914691236517205))))) (.ofNat 3689348814741910323))))))) (.ofNat 1085102592571150095))) (Zc (Za .u64 (Ze .u64 (Za .u64 (Int.add (Zc (Za .u64 (Int.add (Za .u64 (Ze .u64 (Zc (Za .u64 (Int.add (Za .u64 (Ze .u64 (Zc x 1) (.ofNat 6148914691236517205))) (Za .u64 (Ze .u64 x (.ofNat 6148914691236517205))))) 2) (.ofNat 3689348814741910323))) (Za .u64 (Ze .u64 (Za .u64 (Int.add (Za .u64 (Ze .u64 (Zc x 1) (.ofNat 6148914691236517205))) (Za .u64 (Ze .u64 x (.ofNat 6148914691236517205))))) (.ofNat 3689348814741910323))))) 4) (Za .u64 (Int.add (Za .u64 (Ze .u64 (Zc (Za .u64 (Int.add (Za .u64 (Ze .u64 (Zc x 1) (.ofNat 6148914691236517205))) (Za .u64 (Ze .u64 x (.ofNat 6148914691236517205))))) 2) (.ofNat 3689348814741910323))) (Za .u64 (Ze .u64 (Za .u64 (Int.add (Za .u64 (Ze .u64 (Zc x 1) (.ofNat 6148914691236517205))) (Za .u64 (Ze .u64 x (.ofNat 6148914691236517205))))) (.ofNat 3689348814741910323))))))) (.ofNat 1085102592571150095))) 8))) 16))) 32)))) (.ofNat 127))))
theorem Y4w(x:Int):Yr E1 1000 (.call 136 [.int .u64 x] (Yc 12 gl)) [] jK=ocT x:=by kernel_rfl
def pcN(x:Int):Nat:=(Va ((ocT x).getD .nilp)).toNat
theorem Yfk(x:Int):∃ k:Nat,k≤127∧ocT x=some (.int .i64 (.ofNat k)):=by
 unfold ocT
 generalize Za .i64 (Za .u64 _)=y
 obtain⟨k,h1,h2⟩:=Y45 y
 exact⟨k,h1,by rw[h2]⟩
theorem Yw1(x:Int):ocT x=some (.int .i64 (.ofNat (pcN x))):=by
 obtain⟨k,_,h⟩:=Yfk x
 unfold pcN
 rw[h];rfl
theorem Zkw(x:Int):pcN x≤127:=by
 obtain⟨k,h1,h⟩:=Yfk x
 unfold pcN
 rw[h];exact h1
def onT(k:Nat):Option AV:=bc (!(Nat.blt k 64)) (some (.int .u64 (.ofNat 18446744073709551615))) (some (.int .u64 (Za .u64 (Int.sub (Za .u64 (Zf (.ofNat 1) (Nat.min k 64))) (.ofNat 1)))))
theorem Y18(k:Nat):Yr E1 1000 (.call 135 [.int .i64 (.ofNat k)] (Yc 12 gl)) [] jK=onT k:=by kernel_rfl
def onV(k:Nat):Int:=Va ((onT k).getD .nilp)
def Zmi:Option AV→Bool
 |some (.int .u64 _)=>true
 |_=>false
theorem Zc7{o:Option AV}(h:Zmi o=true):o=some (.int .u64 (Va (o.getD .nilp))):=by
 unfold Zmi at h
 split at h
 ·rfl
 ·cases h
theorem Yv9(k:Nat):onT k=some (.int .u64 (onV k)):=Zc7 (by
 unfold onT
 repeat (first|rfl|apply Zx))
def onF:List AV→Option AV
 |[.int .i64 (.ofNat k)]=>some (.int .u64 (onV k))
 |_=>none
def ocF:List AV→Option AV
 |[.int .u64 x]=>some (.int .i64 (.ofNat (pcN x)))
 |_=>none
def MF0:Nat→List AV→Option AV:=fun f args=>bif Nat.beq f 136 then ocF args else bif Nat.beq f 135 then onF args else none
theorem Zlm(f:Nat)(args:List AV)(v:AV)(h:MF0 f args=some v):∃(E:Env)(n:Nat),(∀ w,Z4 gl w→EnvOk E Tryz.prog (Kept gl w))∧(gl.all fun x=>Nat.blt x.1 E.ng)=true∧(E.fn f).isSome=true∧(∀ a∈args,Plain a)∧∃ o,Yr E n (.call f args (Yc E.ng gl)) o jK=some v:=by
 unfold MF0 at h
 simp only[Bool.cond_eq_ite,Nat.beq_eq] at h
 split at h
 ·rename_i e
  subst e
  unfold ocF at h
  split at h
  ·simp only[Option.some.injEq] at h
   subst h
   exact⟨E1,1000,Ky,Ww,by kernel_rfl,Zh rfl,⟨[],(Y4w ..).trans (Yw1 ..)⟩⟩
  ·cases h
 split at h
 ·rename_i e
  subst e
  unfold onF at h
  split at h
  ·simp only[Option.some.injEq] at h
   subst h
   exact⟨E1,1000,Ky,Ww,by kernel_rfl,Zh rfl,⟨[],(Y18 ..).trans (Yv9 ..)⟩⟩
  ·cases h
 ·cases h
def ML0:Env:=Q0 Tryz.prog 12 [136,135] (Z9 (Vy kinds) (Yo MF0))
theorem Y1m(w:World)(hw:Z4 gl w):EnvOk ML0 Tryz.prog (Kept gl w):=Xv (by kernel_rfl) ((Xx V4).or (W4 Zlm)) Xw (fun _ _ _ h=>h.1) (Zz hw).ext
end
end Go.Proofs.YtaakhjmfojoodaaGreatDoor
