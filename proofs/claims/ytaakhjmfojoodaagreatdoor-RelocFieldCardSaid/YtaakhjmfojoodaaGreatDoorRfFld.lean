/- The fields of the short forms, row by row: closed calls. -/
import Derived.Test.YtaakhjmfojoodaaGreatDoorVaiRowB
namespace Go.Proofs.YtaakhjmfojoodaaGreatDoor
open Go Go.Vai
noncomputable section
set_option maxRecDepth 100000
def lD(d:Done):Option (AV×List (Option Obj1)):=pack d.keep (Z2p E1 100000 (.call d.f d.args (Yc 12 gl)))
def rD(d:Done):Option (AV×List (Option Obj1)):=some (d.v,d.os.map some)
theorem Xi{d:Done}(h:lD d=rD d)(hf:(E1.fn d.f).isSome=true)(hp:∀ v∈d.args,Plain v)(hk:d.keep.Nodup)(ho:(d.os.all fun o=>!o.ro)=true):Zr Tryz.prog gl (Zk d):=Z4z (E:=E1) (n:=100000) Ky Ww hf hp (by have:=h;unfold lD rD at this;rw[Zgl] at this;exact this) hk ho
def fd0:Done:=⟨108,[.agg [.str [99,46,97,100,100,105,52,115,112,110],.str [48,48,48,32,115,91,53,58,52,93,32,115,91,57,58,54,93,32,115,91,50,93,32,115,91,51,93,32,97,39,32,48,48],.int .i64 (.ofNat 4),.int .i64 (.ofNat 1020),.int .i64 (.ofNat 4),.str [],.str [97,100,100,105,32,65,32,50,32,48,32,115]]],[38],.sl 38 0 7 none,
[  ⟨35,159,some (5),0,false,false,(qi 3::qb 0::qh 0::qi 0::qf::qi 2::qb 115::qh 0::qi 4::qf::qi 4::qb 115::qh 0::qi 6::qf::qi 1::qb 115::qh 0::qi 2::qf::qi 1::qb 115::qh 0::qi 3::qf::qi 3::qb 97::qh 0::qi 0::qt::qi 2::qb 0::qh 0::qi 0::qf::[])⟩]⟩
theorem Y2q:Zr Tryz.prog gl (Zk fd0):=Xi (by kernel_rfl) (by kernel_rfl) (Zh rfl) (by decide) (by kernel_rfl)
def fd1:Done:=⟨108,[.agg [.str [99,46,108,119],.str [48,49,48,32,115,91,53,58,51,93,32,98,39,32,115,91,50,93,32,115,91,54,93,32,97,39,32,48,48],.int .i64 (.ofNat 0),.int .i64 (.ofNat 124),.int .i64 (.ofNat 4),.str [],.str [108,119,32,65,32,66,32,48,32,115]]],[37],.sl 37 0 7 none,
[  ⟨35,159,some (5),0,false,false,(qi 3::qb 0::qh 2::qi 0::qf::qi 3::qb 115::qh 0::qi 3::qf::qi 3::qb 98::qh 0::qi 0::qt::qi 1::qb 115::qh 0::qi 2::qf::qi 1::qb 115::qh 0::qi 6::qf::qi 3::qb 97::qh 0::qi 0::qt::qi 2::qb 0::qh 0::qi 0::qf::[])⟩]⟩
theorem Y4y:Zr Tryz.prog gl (Zk fd1):=Xi (by kernel_rfl) (by kernel_rfl) (Zh rfl) (by decide) (by kernel_rfl)
def fd2:Done:=⟨108,[.agg [.str [99,46,108,100],.str [48,49,49,32,115,91,53,58,51,93,32,98,39,32,115,91,55,58,54,93,32,97,39,32,48,48],.int .i64 (.ofNat 0),.int .i64 (.ofNat 248),.int .i64 (.ofNat 8),.str [],.str [108,100,32,65,32,66,32,48,32,115]]],[33],.sl 33 0 6 none,
[  ⟨30,159,some (5),0,false,false,(qi 3::qb 0::qh 3::qi 0::qf::qi 3::qb 115::qh 0::qi 3::qf::qi 3::qb 98::qh 0::qi 0::qt::qi 2::qb 115::qh 0::qi 6::qf::qi 3::qb 97::qh 0::qi 0::qt::qi 2::qb 0::qh 0::qi 0::qf::[])⟩]⟩
theorem Y0m:Zr Tryz.prog gl (Zk fd2):=Xi (by kernel_rfl) (by kernel_rfl) (Zh rfl) (by decide) (by kernel_rfl)
def fd3:Done:=⟨108,[.agg [.str [99,46,115,119],.str [49,49,48,32,115,91,53,58,51,93,32,98,39,32,115,91,50,93,32,115,91,54,93,32,99,39,32,48,48],.int .i64 (.ofNat 0),.int .i64 (.ofNat 124),.int .i64 (.ofNat 4),.str [],.str [115,119,32,48,32,66,32,67,32,115]]],[37],.sl 37 0 7 none,
[  ⟨35,159,some (5),0,false,false,(qi 3::qb 0::qh 6::qi 0::qf::qi 3::qb 115::qh 0::qi 3::qf::qi 3::qb 98::qh 0::qi 0::qt::qi 1::qb 115::qh 0::qi 2::qf::qi 1::qb 115::qh 0::qi 6::qf::qi 3::qb 99::qh 0::qi 0::qt::qi 2::qb 0::qh 0::qi 0::qf::[])⟩]⟩
theorem Y2p:Zr Tryz.prog gl (Zk fd3):=Xi (by kernel_rfl) (by kernel_rfl) (Zh rfl) (by decide) (by kernel_rfl)
def fd4:Done:=⟨108,[.agg [.str [99,46,115,100],.str [49,49,49,32,115,91,53,58,51,93,32,98,39,32,115,91,55,58,54,93,32,99,39,32,48,48],.int .i64 (.ofNat 0),.int .i64 (.ofNat 248),.int .i64 (.ofNat 8),.str [],.str [115,100,32,48,32,66,32,67,32,115]]],[33],.sl 33 0 6 none,
[  ⟨30,159,some (5),0,false,false,(qi 3::qb 0::qh 7::qi 0::qf::qi 3::qb 115::qh 0::qi 3::qf::qi 3::qb 98::qh 0::qi 0::qt::qi 2::qb 115::qh 0::qi 6::qf::qi 3::qb 99::qh 0::qi 0::qt::qi 2::qb 0::qh 0::qi 0::qf::[])⟩]⟩
theorem Y27:Zr Tryz.prog gl (Zk fd4):=Xi (by kernel_rfl) (by kernel_rfl) (Zh rfl) (by decide) (by kernel_rfl)
def fd5:Done:=⟨108,[.agg [.str [99,46,110,111,112],.str [48,48,48,32,48,32,48,48,48,48,48,32,48,48,48,48,48,32,48,49],.int .i64 (.ofNat 0),.int .i64 (.ofNat 0),.int .i64 (.ofNat 1),.str [],.str [97,100,100,105,32,48,32,48,32,48,32,48]]],[28],.sl 28 0 5 none,
[  ⟨25,159,some (5),0,false,false,(qi 3::qb 0::qh 0::qi 0::qf::qi 1::qb 0::qh 0::qi 0::qf::qi 5::qb 0::qh 0::qi 0::qf::qi 5::qb 0::qh 0::qi 0::qf::qi 2::qb 0::qh 1::qi 0::qf::[])⟩]⟩
theorem Y2b:Zr Tryz.prog gl (Zk fd5):=Xi (by kernel_rfl) (by kernel_rfl) (Zh rfl) (by decide) (by kernel_rfl)
def fd6:Done:=⟨108,[.agg [.str [99,46,97,100,100,105],.str [48,48,48,32,115,91,53,93,32,97,32,115,91,52,58,48,93,32,48,49],.int .i64 (.negSucc 31),.int .i64 (.ofNat 31),.int .i64 (.ofNat 1),.str [115,65],.str [97,100,100,105,32,65,32,65,32,48,32,115]]],[30],.sl 30 0 5 none,
[  ⟨25,159,some (5),0,false,false,(qi 3::qb 0::qh 0::qi 0::qf::qi 1::qb 115::qh 0::qi 5::qf::qi 5::qb 97::qh 0::qi 0::qf::qi 5::qb 115::qh 0::qi 0::qf::qi 2::qb 0::qh 1::qi 0::qf::[])⟩]⟩
theorem Y3x:Zr Tryz.prog gl (Zk fd6):=Xi (by kernel_rfl) (by kernel_rfl) (Zh rfl) (by decide) (by kernel_rfl)
def fd7:Done:=⟨108,[.agg [.str [99,46,97,100,100,105,119],.str [48,48,49,32,115,91,53,93,32,97,32,115,91,52,58,48,93,32,48,49],.int .i64 (.negSucc 31),.int .i64 (.ofNat 31),.int .i64 (.ofNat 1),.str [65],.str [97,100,100,105,119,32,65,32,65,32,48,32,115]]],[30],.sl 30 0 5 none,
[  ⟨25,159,some (5),0,false,false,(qi 3::qb 0::qh 1::qi 0::qf::qi 1::qb 115::qh 0::qi 5::qf::qi 5::qb 97::qh 0::qi 0::qf::qi 5::qb 115::qh 0::qi 0::qf::qi 2::qb 0::qh 1::qi 0::qf::[])⟩]⟩
theorem Y5f:Zr Tryz.prog gl (Zk fd7):=Xi (by kernel_rfl) (by kernel_rfl) (Zh rfl) (by decide) (by kernel_rfl)
def fd8:Done:=⟨108,[.agg [.str [99,46,108,105],.str [48,49,48,32,115,91,53,93,32,97,32,115,91,52,58,48,93,32,48,49],.int .i64 (.negSucc 31),.int .i64 (.ofNat 31),.int .i64 (.ofNat 1),.str [65],.str [97,100,100,105,32,65,32,48,32,48,32,115]]],[30],.sl 30 0 5 none,
[  ⟨25,159,some (5),0,false,false,(qi 3::qb 0::qh 2::qi 0::qf::qi 1::qb 115::qh 0::qi 5::qf::qi 5::qb 97::qh 0::qi 0::qf::qi 5::qb 115::qh 0::qi 0::qf::qi 2::qb 0::qh 1::qi 0::qf::[])⟩]⟩
theorem Y42:Zr Tryz.prog gl (Zk fd8):=Xi (by kernel_rfl) (by kernel_rfl) (Zh rfl) (by decide) (by kernel_rfl)
def fd9:Done:=⟨108,[.agg [.str [99,46,97,100,100,105,49,54,115,112],.str [48,49,49,32,115,91,57,93,32,48,48,48,49,48,32,115,91,52,93,32,115,91,54,93,32,115,91,56,58,55,93,32,115,91,53,93,32,48,49],.int .i64 (.negSucc 511),.int .i64 (.ofNat 496),.int .i64 (.ofNat 16),.str [115],.str [97,100,100,105,32,50,32,50,32,48,32,115]]],[42],.sl 42 0 8 none,
[  ⟨40,159,some (5),0,false,false,(qi 3::qb 0::qh 3::qi 0::qf::qi 1::qb 115::qh 0::qi 9::qf::qi 5::qb 0::qh 2::qi 0::qf::qi 1::qb 115::qh 0::qi 4::qf::qi 1::qb 115::qh 0::qi 6::qf::qi 2::qb 115::qh 0::qi 7::qf::qi 1::qb 115::qh 0::qi 5::qf::qi 2::qb 0::qh 1::qi 0::qf::[])⟩]⟩
theorem Y2g:Zr Tryz.prog gl (Zk fd9):=Xi (by kernel_rfl) (by kernel_rfl) (Zh rfl) (by decide) (by kernel_rfl)
def Y6r:Done:=⟨108,[.agg [.str [99,46,108,117,105],.str [48,49,49,32,115,91,53,93,32,97,32,115,91,52,58,48,93,32,48,49],.int .i64 (.negSucc 31),.int .i64 (.ofNat 31),.int .i64 (.ofNat 1),.str [115,65,50],.str [108,117,105,32,65,32,48,32,48,32,115]]],[30],.sl 30 0 5 none,
[  ⟨25,159,some (5),0,false,false,(qi 3::qb 0::qh 3::qi 0::qf::qi 1::qb 115::qh 0::qi 5::qf::qi 5::qb 97::qh 0::qi 0::qf::qi 5::qb 115::qh 0::qi 0::qf::qi 2::qb 0::qh 1::qi 0::qf::[])⟩]⟩
theorem Yxc:Zr Tryz.prog gl (Zk Y6r):=Xi (by kernel_rfl) (by kernel_rfl) (Zh rfl) (by decide) (by kernel_rfl)
def Y6f:Done:=⟨108,[.agg [.str [99,46,115,114,108,105],.str [49,48,48,32,115,91,53,93,32,48,48,32,97,39,32,115,91,52,58,48,93,32,48,49],.int .i64 (.ofNat 1),.int .i64 (.ofNat 63),.int .i64 (.ofNat 1),.str [],.str [115,114,108,105,32,65,32,65,32,48,32,115]]],[33],.sl 33 0 6 none,
[  ⟨30,159,some (5),0,false,false,(qi 3::qb 0::qh 4::qi 0::qf::qi 1::qb 115::qh 0::qi 5::qf::qi 2::qb 0::qh 0::qi 0::qf::qi 3::qb 97::qh 0::qi 0::qt::qi 5::qb 115::qh 0::qi 0::qf::qi 2::qb 0::qh 1::qi 0::qf::[])⟩]⟩
theorem Yu6:Zr Tryz.prog gl (Zk Y6f):=Xi (by kernel_rfl) (by kernel_rfl) (Zh rfl) (by decide) (by kernel_rfl)
def Y81:Done:=⟨108,[.agg [.str [99,46,115,114,97,105],.str [49,48,48,32,115,91,53,93,32,48,49,32,97,39,32,115,91,52,58,48,93,32,48,49],.int .i64 (.ofNat 1),.int .i64 (.ofNat 63),.int .i64 (.ofNat 1),.str [],.str [115,114,97,105,32,65,32,65,32,48,32,115]]],[33],.sl 33 0 6 none,
[  ⟨30,159,some (5),0,false,false,(qi 3::qb 0::qh 4::qi 0::qf::qi 1::qb 115::qh 0::qi 5::qf::qi 2::qb 0::qh 1::qi 0::qf::qi 3::qb 97::qh 0::qi 0::qt::qi 5::qb 115::qh 0::qi 0::qf::qi 2::qb 0::qh 1::qi 0::qf::[])⟩]⟩
theorem Yvb:Zr Tryz.prog gl (Zk Y81):=Xi (by kernel_rfl) (by kernel_rfl) (Zh rfl) (by decide) (by kernel_rfl)
def Y8v:Done:=⟨108,[.agg [.str [99,46,97,110,100,105],.str [49,48,48,32,115,91,53,93,32,49,48,32,97,39,32,115,91,52,58,48,93,32,48,49],.int .i64 (.negSucc 31),.int .i64 (.ofNat 31),.int .i64 (.ofNat 1),.str [],.str [97,110,100,105,32,65,32,65,32,48,32,115]]],[33],.sl 33 0 6 none,
[  ⟨30,159,some (5),0,false,false,(qi 3::qb 0::qh 4::qi 0::qf::qi 1::qb 115::qh 0::qi 5::qf::qi 2::qb 0::qh 2::qi 0::qf::qi 3::qb 97::qh 0::qi 0::qt::qi 5::qb 115::qh 0::qi 0::qf::qi 2::qb 0::qh 1::qi 0::qf::[])⟩]⟩
theorem Yt4:Zr Tryz.prog gl (Zk Y8v):=Xi (by kernel_rfl) (by kernel_rfl) (Zh rfl) (by decide) (by kernel_rfl)
def Y51:Done:=⟨108,[.agg [.str [99,46,115,117,98],.str [49,48,48,32,48,32,49,49,32,97,39,32,48,48,32,99,39,32,48,49],.int .i64 (.ofNat 0),.int .i64 (.ofNat 0),.int .i64 (.ofNat 1),.str [],.str [115,117,98,32,65,32,65,32,67,32,48]]],[34],.sl 34 0 7 none,
[  ⟨35,159,some (5),0,false,false,(qi 3::qb 0::qh 4::qi 0::qf::qi 1::qb 0::qh 0::qi 0::qf::qi 2::qb 0::qh 3::qi 0::qf::qi 3::qb 97::qh 0::qi 0::qt::qi 2::qb 0::qh 0::qi 0::qf::qi 3::qb 99::qh 0::qi 0::qt::qi 2::qb 0::qh 1::qi 0::qf::[])⟩]⟩
theorem Yxb:Zr Tryz.prog gl (Zk Y51):=Xi (by kernel_rfl) (by kernel_rfl) (Zh rfl) (by decide) (by kernel_rfl)
def Y7m:Done:=⟨108,[.agg [.str [99,46,120,111,114],.str [49,48,48,32,48,32,49,49,32,97,39,32,48,49,32,99,39,32,48,49],.int .i64 (.ofNat 0),.int .i64 (.ofNat 0),.int .i64 (.ofNat 1),.str [],.str [120,111,114,32,65,32,65,32,67,32,48]]],[34],.sl 34 0 7 none,
[  ⟨35,159,some (5),0,false,false,(qi 3::qb 0::qh 4::qi 0::qf::qi 1::qb 0::qh 0::qi 0::qf::qi 2::qb 0::qh 3::qi 0::qf::qi 3::qb 97::qh 0::qi 0::qt::qi 2::qb 0::qh 1::qi 0::qf::qi 3::qb 99::qh 0::qi 0::qt::qi 2::qb 0::qh 1::qi 0::qf::[])⟩]⟩
theorem Yvh:Zr Tryz.prog gl (Zk Y7m):=Xi (by kernel_rfl) (by kernel_rfl) (Zh rfl) (by decide) (by kernel_rfl)
def Y89:Done:=⟨108,[.agg [.str [99,46,111,114],.str [49,48,48,32,48,32,49,49,32,97,39,32,49,48,32,99,39,32,48,49],.int .i64 (.ofNat 0),.int .i64 (.ofNat 0),.int .i64 (.ofNat 1),.str [],.str [111,114,32,65,32,65,32,67,32,48]]],[34],.sl 34 0 7 none,
[  ⟨35,159,some (5),0,false,false,(qi 3::qb 0::qh 4::qi 0::qf::qi 1::qb 0::qh 0::qi 0::qf::qi 2::qb 0::qh 3::qi 0::qf::qi 3::qb 97::qh 0::qi 0::qt::qi 2::qb 0::qh 2::qi 0::qf::qi 3::qb 99::qh 0::qi 0::qt::qi 2::qb 0::qh 1::qi 0::qf::[])⟩]⟩
theorem Yxf:Zr Tryz.prog gl (Zk Y89):=Xi (by kernel_rfl) (by kernel_rfl) (Zh rfl) (by decide) (by kernel_rfl)
def Y97:Done:=⟨108,[.agg [.str [99,46,97,110,100],.str [49,48,48,32,48,32,49,49,32,97,39,32,49,49,32,99,39,32,48,49],.int .i64 (.ofNat 0),.int .i64 (.ofNat 0),.int .i64 (.ofNat 1),.str [],.str [97,110,100,32,65,32,65,32,67,32,48]]],[34],.sl 34 0 7 none,
[  ⟨35,159,some (5),0,false,false,(qi 3::qb 0::qh 4::qi 0::qf::qi 1::qb 0::qh 0::qi 0::qf::qi 2::qb 0::qh 3::qi 0::qf::qi 3::qb 97::qh 0::qi 0::qt::qi 2::qb 0::qh 3::qi 0::qf::qi 3::qb 99::qh 0::qi 0::qt::qi 2::qb 0::qh 1::qi 0::qf::[])⟩]⟩
theorem Ywb:Zr Tryz.prog gl (Zk Y97):=Xi (by kernel_rfl) (by kernel_rfl) (Zh rfl) (by decide) (by kernel_rfl)
def Y6w:Done:=⟨108,[.agg [.str [99,46,115,117,98,119],.str [49,48,48,32,49,32,49,49,32,97,39,32,48,48,32,99,39,32,48,49],.int .i64 (.ofNat 0),.int .i64 (.ofNat 0),.int .i64 (.ofNat 1),.str [],.str [115,117,98,119,32,65,32,65,32,67,32,48]]],[34],.sl 34 0 7 none,
[  ⟨35,159,some (5),0,false,false,(qi 3::qb 0::qh 4::qi 0::qf::qi 1::qb 0::qh 1::qi 0::qf::qi 2::qb 0::qh 3::qi 0::qf::qi 3::qb 97::qh 0::qi 0::qt::qi 2::qb 0::qh 0::qi 0::qf::qi 3::qb 99::qh 0::qi 0::qt::qi 2::qb 0::qh 1::qi 0::qf::[])⟩]⟩
theorem Yv4:Zr Tryz.prog gl (Zk Y6w):=Xi (by kernel_rfl) (by kernel_rfl) (Zh rfl) (by decide) (by kernel_rfl)
def Y8l:Done:=⟨108,[.agg [.str [99,46,97,100,100,119],.str [49,48,48,32,49,32,49,49,32,97,39,32,48,49,32,99,39,32,48,49],.int .i64 (.ofNat 0),.int .i64 (.ofNat 0),.int .i64 (.ofNat 1),.str [],.str [97,100,100,119,32,65,32,65,32,67,32,48]]],[34],.sl 34 0 7 none,
[  ⟨35,159,some (5),0,false,false,(qi 3::qb 0::qh 4::qi 0::qf::qi 1::qb 0::qh 1::qi 0::qf::qi 2::qb 0::qh 3::qi 0::qf::qi 3::qb 97::qh 0::qi 0::qt::qi 2::qb 0::qh 1::qi 0::qf::qi 3::qb 99::qh 0::qi 0::qt::qi 2::qb 0::qh 1::qi 0::qf::[])⟩]⟩
theorem Yvi:Zr Tryz.prog gl (Zk Y8l):=Xi (by kernel_rfl) (by kernel_rfl) (Zh rfl) (by decide) (by kernel_rfl)
def Y9l:Done:=⟨108,[.agg [.str [99,46,106],.str [49,48,49,32,115,91,49,49,93,32,115,91,52,93,32,115,91,57,58,56,93,32,115,91,49,48,93,32,115,91,54,93,32,115,91,55,93,32,115,91,51,58,49,93,32,115,91,53,93,32,48,49],.int .i64 (.negSucc 2047),.int .i64 (.ofNat 2046),.int .i64 (.ofNat 2),.str [],.str [106,97,108,32,48,32,48,32,48,32,115]]],[51],.sl 51 0 10 none,
[  ⟨50,159,some (5),0,false,false,(qi 3::qb 0::qh 5::qi 0::qf::qi 1::qb 115::qh 0::qi 11::qf::qi 1::qb 115::qh 0::qi 4::qf::qi 2::qb 115::qh 0::qi 8::qf::qi 1::qb 115::qh 0::qi 10::qf::qi 1::qb 115::qh 0::qi 6::qf::qi 1::qb 115::qh 0::qi 7::qf::qi 3::qb 115::qh 0::qi 1::qf::qi 1::qb 115::qh 0::qi 5::qf::qi 2::qb 0::qh 1::qi 0::qf::[])⟩]⟩
theorem Yv2:Zr Tryz.prog gl (Zk Y9l):=Xi (by kernel_rfl) (by kernel_rfl) (Zh rfl) (by decide) (by kernel_rfl)
def Y7r:Done:=⟨108,[.agg [.str [99,46,98,101,113,122],.str [49,49,48,32,115,91,56,93,32,115,91,52,58,51,93,32,98,39,32,115,91,55,58,54,93,32,115,91,50,58,49,93,32,115,91,53,93,32,48,49],.int .i64 (.negSucc 255),.int .i64 (.ofNat 254),.int .i64 (.ofNat 2),.str [],.str [98,101,113,32,48,32,66,32,48,32,115]]],[42],.sl 42 0 8 none,
[  ⟨40,159,some (5),0,false,false,(qi 3::qb 0::qh 6::qi 0::qf::qi 1::qb 115::qh 0::qi 8::qf::qi 2::qb 115::qh 0::qi 3::qf::qi 3::qb 98::qh 0::qi 0::qt::qi 2::qb 115::qh 0::qi 6::qf::qi 2::qb 115::qh 0::qi 1::qf::qi 1::qb 115::qh 0::qi 5::qf::qi 2::qb 0::qh 1::qi 0::qf::[])⟩]⟩
theorem Yup:Zr Tryz.prog gl (Zk Y7r):=Xi (by kernel_rfl) (by kernel_rfl) (Zh rfl) (by decide) (by kernel_rfl)
def fd22:Done:=⟨108,[.agg [.str [99,46,98,110,101,122],.str [49,49,49,32,115,91,56,93,32,115,91,52,58,51,93,32,98,39,32,115,91,55,58,54,93,32,115,91,50,58,49,93,32,115,91,53,93,32,48,49],.int .i64 (.negSucc 255),.int .i64 (.ofNat 254),.int .i64 (.ofNat 2),.str [],.str [98,110,101,32,48,32,66,32,48,32,115]]],[42],.sl 42 0 8 none,
[  ⟨40,159,some (5),0,false,false,(qi 3::qb 0::qh 7::qi 0::qf::qi 1::qb 115::qh 0::qi 8::qf::qi 2::qb 115::qh 0::qi 3::qf::qi 3::qb 98::qh 0::qi 0::qt::qi 2::qb 115::qh 0::qi 6::qf::qi 2::qb 115::qh 0::qi 1::qf::qi 1::qb 115::qh 0::qi 5::qf::qi 2::qb 0::qh 1::qi 0::qf::[])⟩]⟩
theorem Yvc:Zr Tryz.prog gl (Zk fd22):=Xi (by kernel_rfl) (by kernel_rfl) (Zh rfl) (by decide) (by kernel_rfl)
def Y6d:Done:=⟨108,[.agg [.str [99,46,115,108,108,105],.str [48,48,48,32,115,91,53,93,32,97,32,115,91,52,58,48,93,32,49,48],.int .i64 (.ofNat 1),.int .i64 (.ofNat 63),.int .i64 (.ofNat 1),.str [65],.str [115,108,108,105,32,65,32,65,32,48,32,115]]],[30],.sl 30 0 5 none,
[  ⟨25,159,some (5),0,false,false,(qi 3::qb 0::qh 0::qi 0::qf::qi 1::qb 115::qh 0::qi 5::qf::qi 5::qb 97::qh 0::qi 0::qf::qi 5::qb 115::qh 0::qi 0::qf::qi 2::qb 0::qh 2::qi 0::qf::[])⟩]⟩
theorem Ys3:Zr Tryz.prog gl (Zk Y6d):=Xi (by kernel_rfl) (by kernel_rfl) (Zh rfl) (by decide) (by kernel_rfl)
def Y7o:Done:=⟨108,[.agg [.str [99,46,108,119,115,112],.str [48,49,48,32,115,91,53,93,32,97,32,115,91,52,58,50,93,32,115,91,55,58,54,93,32,49,48],.int .i64 (.ofNat 0),.int .i64 (.ofNat 252),.int .i64 (.ofNat 4),.str [65],.str [108,119,32,65,32,50,32,48,32,115]]],[34],.sl 34 0 6 none,
[  ⟨30,159,some (5),0,false,false,(qi 3::qb 0::qh 2::qi 0::qf::qi 1::qb 115::qh 0::qi 5::qf::qi 5::qb 97::qh 0::qi 0::qf::qi 3::qb 115::qh 0::qi 2::qf::qi 2::qb 115::qh 0::qi 6::qf::qi 2::qb 0::qh 2::qi 0::qf::[])⟩]⟩
theorem Yx4:Zr Tryz.prog gl (Zk Y7o):=Xi (by kernel_rfl) (by kernel_rfl) (Zh rfl) (by decide) (by kernel_rfl)
def Y82:Done:=⟨108,[.agg [.str [99,46,108,100,115,112],.str [48,49,49,32,115,91,53,93,32,97,32,115,91,52,58,51,93,32,115,91,56,58,54,93,32,49,48],.int .i64 (.ofNat 0),.int .i64 (.ofNat 504),.int .i64 (.ofNat 8),.str [65],.str [108,100,32,65,32,50,32,48,32,115]]],[34],.sl 34 0 6 none,
[  ⟨30,159,some (5),0,false,false,(qi 3::qb 0::qh 3::qi 0::qf::qi 1::qb 115::qh 0::qi 5::qf::qi 5::qb 97::qh 0::qi 0::qf::qi 2::qb 115::qh 0::qi 3::qf::qi 3::qb 115::qh 0::qi 6::qf::qi 2::qb 0::qh 2::qi 0::qf::[])⟩]⟩
theorem Yxz:Zr Tryz.prog gl (Zk Y82):=Xi (by kernel_rfl) (by kernel_rfl) (Zh rfl) (by decide) (by kernel_rfl)
def Y61:Done:=⟨108,[.agg [.str [99,46,106,114],.str [49,48,48,32,48,32,98,32,48,48,48,48,48,32,49,48],.int .i64 (.ofNat 0),.int .i64 (.ofNat 0),.int .i64 (.ofNat 1),.str [66],.str [106,97,108,114,32,48,32,66,32,48,32,48]]],[28],.sl 28 0 5 none,
[  ⟨25,159,some (5),0,false,false,(qi 3::qb 0::qh 4::qi 0::qf::qi 1::qb 0::qh 0::qi 0::qf::qi 5::qb 98::qh 0::qi 0::qf::qi 5::qb 0::qh 0::qi 0::qf::qi 2::qb 0::qh 2::qi 0::qf::[])⟩]⟩
theorem Ytj:Zr Tryz.prog gl (Zk Y61):=Xi (by kernel_rfl) (by kernel_rfl) (Zh rfl) (by decide) (by kernel_rfl)
def Y6h:Done:=⟨108,[.agg [.str [99,46,106,97,108,114],.str [49,48,48,32,49,32,98,32,48,48,48,48,48,32,49,48],.int .i64 (.ofNat 0),.int .i64 (.ofNat 0),.int .i64 (.ofNat 1),.str [66],.str [106,97,108,114,32,49,32,66,32,48,32,48]]],[28],.sl 28 0 5 none,
[  ⟨25,159,some (5),0,false,false,(qi 3::qb 0::qh 4::qi 0::qf::qi 1::qb 0::qh 1::qi 0::qf::qi 5::qb 98::qh 0::qi 0::qf::qi 5::qb 0::qh 0::qi 0::qf::qi 2::qb 0::qh 2::qi 0::qf::[])⟩]⟩
theorem Ytb:Zr Tryz.prog gl (Zk Y6h):=Xi (by kernel_rfl) (by kernel_rfl) (Zh rfl) (by decide) (by kernel_rfl)
def Y6x:Done:=⟨108,[.agg [.str [99,46,109,118],.str [49,48,48,32,48,32,97,32,99,32,49,48],.int .i64 (.ofNat 0),.int .i64 (.ofNat 0),.int .i64 (.ofNat 1),.str [65,67],.str [97,100,100,32,65,32,48,32,67,32,48]]],[28],.sl 28 0 5 none,
[  ⟨25,159,some (5),0,false,false,(qi 3::qb 0::qh 4::qi 0::qf::qi 1::qb 0::qh 0::qi 0::qf::qi 5::qb 97::qh 0::qi 0::qf::qi 5::qb 99::qh 0::qi 0::qf::qi 2::qb 0::qh 2::qi 0::qf::[])⟩]⟩
theorem Ywk:Zr Tryz.prog gl (Zk Y6x):=Xi (by kernel_rfl) (by kernel_rfl) (Zh rfl) (by decide) (by kernel_rfl)
def Y92:Done:=⟨108,[.agg [.str [99,46,97,100,100],.str [49,48,48,32,49,32,97,32,99,32,49,48],.int .i64 (.ofNat 0),.int .i64 (.ofNat 0),.int .i64 (.ofNat 1),.str [65,67],.str [97,100,100,32,65,32,65,32,67,32,48]]],[28],.sl 28 0 5 none,
[  ⟨25,159,some (5),0,false,false,(qi 3::qb 0::qh 4::qi 0::qf::qi 1::qb 0::qh 1::qi 0::qf::qi 5::qb 97::qh 0::qi 0::qf::qi 5::qb 99::qh 0::qi 0::qf::qi 2::qb 0::qh 2::qi 0::qf::[])⟩]⟩
theorem Yth:Zr Tryz.prog gl (Zk Y92):=Xi (by kernel_rfl) (by kernel_rfl) (Zh rfl) (by decide) (by kernel_rfl)
def Y6z:Done:=⟨108,[.agg [.str [99,46,101,98,114,101,97,107],.str [49,48,48,32,49,32,48,48,48,48,48,32,48,48,48,48,48,32,49,48],.int .i64 (.ofNat 0),.int .i64 (.ofNat 0),.int .i64 (.ofNat 1),.str [],.str [101,98,114,101,97,107,32,48,32,48,32,48,32,48]]],[28],.sl 28 0 5 none,
[  ⟨25,159,some (5),0,false,false,(qi 3::qb 0::qh 4::qi 0::qf::qi 1::qb 0::qh 1::qi 0::qf::qi 5::qb 0::qh 0::qi 0::qf::qi 5::qb 0::qh 0::qi 0::qf::qi 2::qb 0::qh 2::qi 0::qf::[])⟩]⟩
theorem Yxv:Zr Tryz.prog gl (Zk Y6z):=Xi (by kernel_rfl) (by kernel_rfl) (Zh rfl) (by decide) (by kernel_rfl)
def Y94:Done:=⟨108,[.agg [.str [99,46,115,119,115,112],.str [49,49,48,32,115,91,53,58,50,93,32,115,91,55,58,54,93,32,99,32,49,48],.int .i64 (.ofNat 0),.int .i64 (.ofNat 252),.int .i64 (.ofNat 4),.str [],.str [115,119,32,48,32,50,32,67,32,115]]],[30],.sl 30 0 5 none,
[  ⟨25,159,some (5),0,false,false,(qi 3::qb 0::qh 6::qi 0::qf::qi 4::qb 115::qh 0::qi 2::qf::qi 2::qb 115::qh 0::qi 6::qf::qi 5::qb 99::qh 0::qi 0::qf::qi 2::qb 0::qh 2::qi 0::qf::[])⟩]⟩
theorem Yv8:Zr Tryz.prog gl (Zk Y94):=Xi (by kernel_rfl) (by kernel_rfl) (Zh rfl) (by decide) (by kernel_rfl)
def Y60:Done:=⟨108,[.agg [.str [99,46,115,100,115,112],.str [49,49,49,32,115,91,53,58,51,93,32,115,91,56,58,54,93,32,99,32,49,48],.int .i64 (.ofNat 0),.int .i64 (.ofNat 504),.int .i64 (.ofNat 8),.str [],.str [115,100,32,48,32,50,32,67,32,115]]],[30],.sl 30 0 5 none,
[  ⟨25,159,some (5),0,false,false,(qi 3::qb 0::qh 7::qi 0::qf::qi 3::qb 115::qh 0::qi 3::qf::qi 3::qb 115::qh 0::qi 6::qf::qi 5::qb 99::qh 0::qi 0::qf::qi 2::qb 0::qh 2::qi 0::qf::[])⟩]⟩
theorem Yxn:Zr Tryz.prog gl (Zk Y60):=Xi (by kernel_rfl) (by kernel_rfl) (Zh rfl) (by decide) (by kernel_rfl)
def Yzi:Sm:=Z9 (Zk fd0) (Z9 (Zk fd1) (Z9 (Zk fd2) (Z9 (Zk fd3) (Z9 (Zk fd4) (Z9 (Zk fd5) (Z9 (Zk fd6) (Z9 (Zk fd7) (Z9 (Zk fd8) (Z9 (Zk fd9) (Z9 (Zk Y6r) (Z9 (Zk Y6f) (Z9 (Zk Y81) (Z9 (Zk Y8v) (Z9 (Zk Y51) (Z9 (Zk Y7m) (Z9 (Zk Y89) (Z9 (Zk Y97) (Z9 (Zk Y6w) (Z9 (Zk Y8l) (Z9 (Zk Y9l) (Z9 (Zk Y7r) (Z9 (Zk fd22) (Z9 (Zk Y6d) (Z9 (Zk Y7o) (Z9 (Zk Y82) (Z9 (Zk Y61) (Z9 (Zk Y6h) (Z9 (Zk Y6x) (Z9 (Zk Y92) (Z9 (Zk Y6z) (Z9 (Zk Y94) (Zk Y60))))))))))))))))))))))))))))))))
theorem Y4e:Zr Tryz.prog gl Yzi:=Y2q.or (Y4y.or (Y0m.or (Y2p.or (Y27.or (Y2b.or (Y3x.or (Y5f.or (Y42.or (Y2g.or (Yxc.or (Yu6.or (Yvb.or (Yt4.or (Yxb.or (Yvh.or (Yxf.or (Ywb.or (Yv4.or (Yvi.or (Yv2.or (Yup.or (Yvc.or (Ys3.or (Yx4.or (Yxz.or (Ytj.or (Ytb.or (Ywk.or (Yth.or (Yxv.or (Yv8.or (Yxn))))))))))))))))))))))))))))))))
end
end Go.Proofs.YtaakhjmfojoodaaGreatDoor
