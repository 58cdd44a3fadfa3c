/- Package arm's rows: what an instruction is refused for, its word. -/
import Derived.Test.YtaakhjmfojoodaaGreatDoorMask3
namespace Go.Proofs.YtaakhjmfojoodaaGreatDoor
open Go Go.Vai
noncomputable section
set_option maxRecDepth 100000
def Ze3(k y:Int):Bool:=Zd k (.ofNat 0)||(Zd k (.ofNat 3)||!(Zd (Za .i64 y) (.ofNat 0)))
def Zac(_rn:List UInt8)(_rw:Int)(qat:Int)(qab:Int)(qak:Int)(qay:Int)(qal:Int)(qah:Int)(qbt:Int)(qbb:Int)(qbk:Int)(qby:Int)(qbl:Int)(qbh:Int)(qct:Int)(qcb:Int)(qck:Int)(qcy:Int)(qcl:Int)(qch:Int)(qdt:Int)(qdb:Int)(qdk:Int)(qdy:Int)(qdl:Int)(qdh:Int)(_qmt:Int)(_qmb:Int)(qmk:Int)(qmy:Int)(qml:Int)(qmh:Int)(_ro:List UInt8)(_nm:List UInt8)(ia:Int)(ib:Int)(ic:Int)(id:Int)(im:Int):Option AV:=bc (!(Zce qat qab qak qay qal qah ia)) (some (.int .i64 (.ofNat 13))) (bc (!(Zce qbt qbb qbk qby qbl qbh ib)) (some (.int .i64 (.ofNat 13))) (bc (!(Zce qct qcb qck qcy qcl qch ic)) (some (.int .i64 (.ofNat 13))) (bc (!(Zce qdt qdb qdk qdy qdl qdh id)) (some (.int .i64 (.ofNat 13))) (bc (Zd qmk (.ofNat 0)) (bc (!(Zd im (.ofNat 0))) (some (.int .i64 (.ofNat 13))) (bc (Zd qmk (.ofNat 0)) (some (.int .i64 (.ofNat 0))) (bc (Zd qmk (.ofNat 3)) (bc (!(ofK (Za .u64 im))) (some (.int .i64 (.ofNat 3))) (some (.int .i64 (.ofNat 0)))) (bc (Z2 im (Za .i64 qml)) (some (.int .i64 (.ofNat 3))) (bc (Z2 (Za .i64 qmh) im) (some (.int .i64 (.ofNat 3))) (bc (Zd (Za .i64 qmy) (.ofNat 0)) (none) (bc (!(Zd (Int.tmod im (Za .i64 qmy)) (.ofNat 0))) (some (.int .i64 (.ofNat 10))) (some (.int .i64 (.ofNat 0)))))))))) (bc (Zd qmk (.ofNat 0)) (some (.int .i64 (.ofNat 0))) (bc (Zd qmk (.ofNat 3)) (bc (!(ofK (Za .u64 im))) (some (.int .i64 (.ofNat 3))) (some (.int .i64 (.ofNat 0)))) (bc (Z2 im (Za .i64 qml)) (some (.int .i64 (.ofNat 3))) (bc (Z2 (Za .i64 qmh) im) (some (.int .i64 (.ofNat 3))) (bc (Zd (Za .i64 qmy) (.ofNat 0)) (none) (bc (!(Zd (Int.tmod im (Za .i64 qmy)) (.ofNat 0))) (some (.int .i64 (.ofNat 10))) (some (.int .i64 (.ofNat 0)))))))))))))
theorem Zyl(rn:List UInt8)(rw:Int)(qat:Int)(qab:Int)(qak:Int)(qay:Int)(qal:Int)(qah:Int)(qbt:Int)(qbb:Int)(qbk:Int)(qby:Int)(qbl:Int)(qbh:Int)(qct:Int)(qcb:Int)(qck:Int)(qcy:Int)(qcl:Int)(qch:Int)(qdt:Int)(qdb:Int)(qdk:Int)(qdy:Int)(qdl:Int)(qdh:Int)(qmt:Int)(qmb:Int)(qmk:Int)(qmy:Int)(qml:Int)(qmh:Int)(ro:List UInt8)(nm:List UInt8)(ia:Int)(ib:Int)(ic:Int)(id:Int)(im:Int):W2 AL4 Z89 Qe 1000 (.call 63 [.agg (.str rn::.int .u32 rw::.int .i8 qat::.int .i8 qab::.int .i8 qak::.int .i8 qay::.int .i32 qal::.int .i32 qah::.int .i8 qbt::.int .i8 qbb::.int .i8 qbk::.int .i8 qby::.int .i32 qbl::.int .i32 qbh::.int .i8 qct::.int .i8 qcb::.int .i8 qck::.int .i8 qcy::.int .i32 qcl::.int .i32 qch::.int .i8 qdt::.int .i8 qdb::.int .i8 qdk::.int .i8 qdy::.int .i32 qdl::.int .i32 qdh::.int .i8 qmt::.int .i8 qmb::.int .i8 qmk::.int .i8 qmy::.int .i32 qml::.int .i32 qmh::.str ro::[]),.agg [.str nm,.int .i64 ia,.int .i64 ib,.int .i64 ic,.int .i64 id,.int .i64 im]] (Yc 12 gl)) [] jK=Zac rn rw qat qab qak qay qal qah qbt qbb qbk qby qbl qbh qct qcb qck qcy qcl qch qdt qdb qdk qdy qdl qdh qmt qmb qmk qmy qml qmh ro nm ia ib ic id im:=by kernel_rfl
def Kb(rn:List UInt8)(rw:Int)(qat:Int)(qab:Int)(qak:Int)(qay:Int)(qal:Int)(qah:Int)(qbt:Int)(qbb:Int)(qbk:Int)(qby:Int)(qbl:Int)(qbh:Int)(qct:Int)(qcb:Int)(qck:Int)(qcy:Int)(qcl:Int)(qch:Int)(qdt:Int)(qdb:Int)(qdk:Int)(qdy:Int)(qdl:Int)(qdh:Int)(qmt:Int)(qmb:Int)(qmk:Int)(qmy:Int)(qml:Int)(qmh:Int)(ro:List UInt8)(nm:List UInt8)(ia:Int)(ib:Int)(ic:Int)(id:Int)(im:Int):Int:=Va (at_ [] ((Zac rn rw qat qab qak qay qal qah qbt qbb qbk qby qbl qbh qct qcb qck qcy qcl qch qdt qdb qdk qdy qdl qdh qmt qmb qmk qmy qml qmh ro nm ia ib ic id im).getD .nilp))
def Ztv:Option AV→Bool
 |some (.int .i64 _)=>true
 |_=>false
theorem Zhu(rn:List UInt8)(rw:Int)(qat:Int)(qab:Int)(qak:Int)(qay:Int)(qal:Int)(qah:Int)(qbt:Int)(qbb:Int)(qbk:Int)(qby:Int)(qbl:Int)(qbh:Int)(qct:Int)(qcb:Int)(qck:Int)(qcy:Int)(qcl:Int)(qch:Int)(qdt:Int)(qdb:Int)(qdk:Int)(qdy:Int)(qdl:Int)(qdh:Int)(qmt:Int)(qmb:Int)(qmk:Int)(qmy:Int)(qml:Int)(qmh:Int)(ro:List UInt8)(nm:List UInt8)(ia:Int)(ib:Int)(ic:Int)(id:Int)(im:Int)(hg:Ze3 qmk qmy=true):Zac rn rw qat qab qak qay qal qah qbt qbb qbk qby qbl qbh qct qcb qck qcy qcl qch qdt qdb qdk qdy qdl qdh qmt qmb qmk qmy qml qmh ro nm ia ib ic id im=some (.int .i64 (Kb rn rw qat qab qak qay qal qah qbt qbb qbk qby qbl qbh qct qcb qck qcy qcl qch qdt qdb qdk qdy qdl qdh qmt qmb qmk qmy qml qmh ro nm ia ib ic id im)):=by
 have h:Ztv (Zac rn rw qat qab qak qay qal qah qbt qbb qbk qby qbl qbh qct qcb qck qcy qcl qch qdt qdb qdk qdy qdl qdh qmt qmb qmk qmy qml qmh ro nm ia ib ic id im)=true:=by
  unfold Zac
  cases e1:Zd qmk (.ofNat 0) with
  |true=>
   simp only[Ym]
   repeat (first|rfl|apply Zx)
  |false=>
   cases e2:Zd qmk (.ofNat 3) with
   |true=>
    simp only[Ym,Yg]
    repeat (first|rfl|apply Zx)
   |false=>
    have e3:Zd (Za .i64 qmy) (.ofNat 0)=false:=by
     unfold Ze3 at hg
     rw[e1,e2] at hg
     simpa using hg
    simp only[e3,Yg]
    repeat (first|rfl|apply Zx)
 unfold Kb
 generalize Zac rn rw qat qab qak qay qal qah qbt qbb qbk qby qbl qbh qct qcb qck qcy qcl qch qdt qdb qdk qdy qdl qdh qmt qmb qmk qmy qml qmh ro nm ia ib ic id im=x at h ⊢
 unfold Ztv at h
 split at h
 ·rfl
 ·cases h
def Zef(_rn:List UInt8)(rw:Int)(qat:Int)(qab:Int)(qak:Int)(qay:Int)(qal:Int)(qah:Int)(qbt:Int)(qbb:Int)(qbk:Int)(qby:Int)(qbl:Int)(qbh:Int)(qct:Int)(qcb:Int)(qck:Int)(qcy:Int)(qcl:Int)(qch:Int)(qdt:Int)(qdb:Int)(qdk:Int)(qdy:Int)(qdl:Int)(qdh:Int)(qmt:Int)(qmb:Int)(qmk:Int)(qmy:Int)(qml:Int)(qmh:Int)(_ro:List UInt8)(_nm:List UInt8)(ia:Int)(ib:Int)(ic:Int)(id:Int)(im:Int):Option AV:=bc (Yl qat qab qak qay) (bc (AV.eqb (.int .u32 rw) (.int .u32 rw)) (bc (AV.eqb (.agg [.int .i8 qbt,.int .i8 qbb,.int .i8 qbk,.int .i8 qby,.int .i32 qbl,.int .i32 qbh]) (.agg [.int .i8 qbt,.int .i8 qbb,.int .i8 qbk,.int .i8 qby,.int .i32 qbl,.int .i32 qbh])) (bc (AV.eqb (.int .i64 ib) (.int .i64 ib)) (bc (Yl qbt qbb qbk qby) (bc (AV.eqb (.int .u32 (Za .u32 (Zw .u32 rw (Yn qat qab qak qay qal qah ia)))) (.int .u32 (Za .u32 (Zw .u32 rw (Yn qat qab qak qay qal qah ia))))) (bc (AV.eqb (.int .u32 rw) (.int .u32 rw)) (bc (AV.eqb (.agg [.int .i8 qct,.int .i8 qcb,.int .i8 qck,.int .i8 qcy,.int .i32 qcl,.int .i32 qch]) (.agg [.int .i8 qct,.int .i8 qcb,.int .i8 qck,.int .i8 qcy,.int .i32 qcl,.int .i32 qch])) (bc (AV.eqb (.agg [.int .i8 qct,.int .i8 qcb,.int .i8 qck,.int .i8 qcy,.int .i32 qcl,.int .i32 qch]) (.agg [.int .i8 qct,.int .i8 qcb,.int .i8 qck,.int .i8 qcy,.int .i32 qcl,.int .i32 qch])) (bc (AV.eqb (.int .i64 ic) (.int .i64 ic)) (bc (AV.eqb (.int .i64 ic) (.int .i64 ic)) (bc (Yl qct qcb qck qcy) (bc (AV.eqb (.int .u32 (Za .u32 (Zw .u32 (Za .u32 (Zw .u32 rw (Yn qat qab qak qay qal qah ia))) (Yn qbt qbb qbk qby qbl qbh ib)))) (.int .u32 (Za .u32 (Zw .u32 (Za .u32 (Zw .u32 rw (Yn qat qab qak qay qal qah ia))) (Yn qbt qbb qbk qby qbl qbh ib))))) (bc (AV.eqb (.int .u32 (Za .u32 (Zw .u32 rw (Yn qat qab qak qay qal qah ia)))) (.int .u32 (Za .u32 (Zw .u32 rw (Yn qat qab qak qay qal qah ia))))) (bc (AV.eqb (.int .u32 rw) (.int .u32 rw)) (bc (AV.eqb (.agg [.int .i8 qdt,.int .i8 qdb,.int .i8 qdk,.int .i8 qdy,.int .i32 qdl,.int .i32 qdh]) (.agg [.int .i8 qdt,.int .i8 qdb,.int .i8 qdk,.int .i8 qdy,.int .i32 qdl,.int .i32 qdh])) (bc (AV.eqb (.agg [.int .i8 qdt,.int .i8 qdb,.int .i8 qdk,.int .i8 qdy,.int .i32 qdl,.int .i32 qdh]) (.agg [.int .i8 qdt,.int .i8 qdb,.int .i8 qdk,.int .i8 qdy,.int .i32 qdl,.int .i32 qdh])) (bc (AV.eqb (.agg [.int .i8 qdt,.int .i8 qdb,.int .i8 qdk,.int .i8 qdy,.int .i32 qdl,.int .i32 qdh]) (.agg [.int .i8 qdt,.int .i8 qdb,.int .i8 qdk,.int .i8 qdy,.int .i32 qdl,.int .i32 qdh])) (bc (AV.eqb (.int .i64 id) (.int .i64 id)) (bc (AV.eqb (.int .i64 id) (.int .i64 id)) (bc (AV.eqb (.int .i64 id) (.int .i64 id)) (bc (Yl qdt qdb qdk qdy) (bc (AV.eqb (.int .u32 (Za .u32 (Zw .u32 (Za .u32 (Zw .u32 (Za .u32 (Zw .u32 rw (Yn qat qab qak qay qal qah ia))) (Yn qbt qbb qbk qby qbl qbh ib))) (Yn qct qcb qck qcy qcl qch ic)))) (.int .u32 (Za .u32 (Zw .u32 (Za .u32 (Zw .u32 (Za .u32 (Zw .u32 rw (Yn qat qab qak qay qal qah ia))) (Yn qbt qbb qbk qby qbl qbh ib))) (Yn qct qcb qck qcy qcl qch ic))))) (bc (AV.eqb (.int .u32 (Za .u32 (Zw .u32 (Za .u32 (Zw .u32 rw (Yn qat qab qak qay qal qah ia))) (Yn qbt qbb qbk qby qbl qbh ib)))) (.int .u32 (Za .u32 (Zw .u32 (Za .u32 (Zw .u32 rw (Yn qat qab qak qay qal qah ia))) (Yn qbt qbb qbk qby qbl qbh ib))))) (bc (AV.eqb (.int .u32 (Za .u32 (Zw .u32 rw (Yn qat qab qak qay qal qah ia)))) (.int .u32 (Za .u32 (Zw .u32 rw (Yn qat qab qak qay qal qah ia))))) (bc (AV.eqb (.int .u32 rw) (.int .u32 rw)) (bc (AV.eqb (.agg [.int .i8 qmt,.int .i8 qmb,.int .i8 qmk,.int .i8 qmy,.int .i32 qml,.int .i32 qmh]) (.agg [.int .i8 qmt,.int .i8 qmb,.int .i8 qmk,.int .i8 qmy,.int .i32 qml,.int .i32 qmh])) (bc (AV.eqb (.agg [.int .i8 qmt,.int .i8 qmb,.int .i8 qmk,.int .i8 qmy,.int .i32 qml,.int .i32 qmh]) (.agg [.int .i8 qmt,.int .i8 qmb,.int .i8 qmk,.int .i8 qmy,.int .i32 qml,.int .i32 qmh])) (bc (AV.eqb (.agg [.int .i8 qmt,.int .i8 qmb,.int .i8 qmk,.int .i8 qmy,.int .i32 qml,.int .i32 qmh]) (.agg [.int .i8 qmt,.int .i8 qmb,.int .i8 qmk,.int .i8 qmy,.int .i32 qml,.int .i32 qmh])) (bc (AV.eqb (.agg [.int .i8 qmt,.int .i8 qmb,.int .i8 qmk,.int .i8 qmy,.int .i32 qml,.int .i32 qmh]) (.agg [.int .i8 qmt,.int .i8 qmb,.int .i8 qmk,.int .i8 qmy,.int .i32 qml,.int .i32 qmh])) (bc (AV.eqb (.int .i64 im) (.int .i64 im)) (bc (AV.eqb (.int .i64 im) (.int .i64 im)) (bc (AV.eqb (.int .i64 im) (.int .i64 im)) (bc (AV.eqb (.int .i64 im) (.int .i64 im)) (bc (Yl qmt qmb qmk qmy) (bc (AV.eqb (.int .u32 (Za .u32 (Zw .u32 (Za .u32 (Zw .u32 (Za .u32 (Zw .u32 (Za .u32 (Zw .u32 rw (Yn qat qab qak qay qal qah ia))) (Yn qbt qbb qbk qby qbl qbh ib))) (Yn qct qcb qck qcy qcl qch ic))) (Yn qdt qdb qdk qdy qdl qdh id)))) (.int .u32 (Za .u32 (Zw .u32 (Za .u32 (Zw .u32 (Za .u32 (Zw .u32 (Za .u32 (Zw .u32 rw (Yn qat qab qak qay qal qah ia))) (Yn qbt qbb qbk qby qbl qbh ib))) (Yn qct qcb qck qcy qcl qch ic))) (Yn qdt qdb qdk qdy qdl qdh id))))) (bc (AV.eqb (.int .u32 (Za .u32 (Zw .u32 (Za .u32 (Zw .u32 (Za .u32 (Zw .u32 rw (Yn qat qab qak qay qal qah ia))) (Yn qbt qbb qbk qby qbl qbh ib))) (Yn qct qcb qck qcy qcl qch ic)))) (.int .u32 (Za .u32 (Zw .u32 (Za .u32 (Zw .u32 (Za .u32 (Zw .u32 rw (Yn qat qab qak qay qal qah ia))) (Yn qbt qbb qbk qby qbl qbh ib))) (Yn qct qcb qck qcy qcl qch ic))))) (bc (AV.eqb (.int .u32 (Za .u32 (Zw .u32 (Za .u32 (Zw .u32 rw (Yn qat qab qak qay qal qah ia))) (Yn qbt qbb qbk qby qbl qbh ib)))) (.int .u32 (Za .u32 (Zw .u32 (Za .u32 (Zw .u32 rw (Yn qat qab qak qay qal qah ia))) (Yn qbt qbb qbk qby qbl qbh ib))))) (bc (AV.eqb (.int .u32 (Za .u32 (Zw .u32 rw (Yn qat qab qak qay qal qah ia)))) (.int .u32 (Za .u32 (Zw .u32 rw (Yn qat qab qak qay qal qah ia))))) (bc (AV.eqb (.int .u32 rw) (.int .u32 rw)) (some (.int .u32 (Za .u32 (Zw .u32 (Za .u32 (Zw .u32 (Za .u32 (Zw .u32 (Za .u32 (Zw .u32 (Za .u32 (Zw .u32 rw (Yn qat qab qak qay qal qah ia))) (Yn qbt qbb qbk qby qbl qbh ib))) (Yn qct qcb qck qcy qcl qch ic))) (Yn qdt qdb qdk qdy qdl qdh id))) (Yn qmt qmb qmk qmy qml qmh im))))) (none)) (none)) (none)) (none)) (none)) (none)) (none)) (none)) (none)) (none)) (none)) (none)) (none)) (none)) (none)) (none)) (none)) (none)) (none)) (none)) (none)) (none)) (none)) (none)) (none)) (none)) (none)) (none)) (none)) (none)) (none)) (none)) (none)) (none)) (none)) (none)) (none)) (none)) (none)) (none)
theorem Z3q(rn:List UInt8)(rw:Int)(qat:Int)(qab:Int)(qak:Int)(qay:Int)(qal:Int)(qah:Int)(qbt:Int)(qbb:Int)(qbk:Int)(qby:Int)(qbl:Int)(qbh:Int)(qct:Int)(qcb:Int)(qck:Int)(qcy:Int)(qcl:Int)(qch:Int)(qdt:Int)(qdb:Int)(qdk:Int)(qdy:Int)(qdl:Int)(qdh:Int)(qmt:Int)(qmb:Int)(qmk:Int)(qmy:Int)(qml:Int)(qmh:Int)(ro:List UInt8)(nm:List UInt8)(ia:Int)(ib:Int)(ic:Int)(id:Int)(im:Int):W2 AL4 Z89 Qe 1000 (.call 64 [.agg (.str rn::.int .u32 rw::.int .i8 qat::.int .i8 qab::.int .i8 qak::.int .i8 qay::.int .i32 qal::.int .i32 qah::.int .i8 qbt::.int .i8 qbb::.int .i8 qbk::.int .i8 qby::.int .i32 qbl::.int .i32 qbh::.int .i8 qct::.int .i8 qcb::.int .i8 qck::.int .i8 qcy::.int .i32 qcl::.int .i32 qch::.int .i8 qdt::.int .i8 qdb::.int .i8 qdk::.int .i8 qdy::.int .i32 qdl::.int .i32 qdh::.int .i8 qmt::.int .i8 qmb::.int .i8 qmk::.int .i8 qmy::.int .i32 qml::.int .i32 qmh::.str ro::[]),.agg [.str nm,.int .i64 ia,.int .i64 ib,.int .i64 ic,.int .i64 id,.int .i64 im]] (Yc 12 gl)) [] jK=Zef rn rw qat qab qak qay qal qah qbt qbb qbk qby qbl qbh qct qcb qck qcy qcl qch qdt qdb qdk qdy qdl qdh qmt qmb qmk qmy qml qmh ro nm ia ib ic id im:=by kernel_rfl
def J6(rn:List UInt8)(rw:Int)(qat:Int)(qab:Int)(qak:Int)(qay:Int)(qal:Int)(qah:Int)(qbt:Int)(qbb:Int)(qbk:Int)(qby:Int)(qbl:Int)(qbh:Int)(qct:Int)(qcb:Int)(qck:Int)(qcy:Int)(qcl:Int)(qch:Int)(qdt:Int)(qdb:Int)(qdk:Int)(qdy:Int)(qdl:Int)(qdh:Int)(qmt:Int)(qmb:Int)(qmk:Int)(qmy:Int)(qml:Int)(qmh:Int)(ro:List UInt8)(nm:List UInt8)(ia:Int)(ib:Int)(ic:Int)(id:Int)(im:Int):Int:=Va (at_ [] ((Zef rn rw qat qab qak qay qal qah qbt qbb qbk qby qbl qbh qct qcb qck qcy qcl qch qdt qdb qdk qdy qdl qdh qmt qmb qmk qmy qml qmh ro nm ia ib ic id im).getD .nilp))
def Z75:Option AV→Bool
 |some (.int .u32 _)=>true
 |_=>false
theorem Zmk(rn:List UInt8)(rw:Int)(qat:Int)(qab:Int)(qak:Int)(qay:Int)(qal:Int)(qah:Int)(qbt:Int)(qbb:Int)(qbk:Int)(qby:Int)(qbl:Int)(qbh:Int)(qct:Int)(qcb:Int)(qck:Int)(qcy:Int)(qcl:Int)(qch:Int)(qdt:Int)(qdb:Int)(qdk:Int)(qdy:Int)(qdl:Int)(qdh:Int)(qmt:Int)(qmb:Int)(qmk:Int)(qmy:Int)(qml:Int)(qmh:Int)(ro:List UInt8)(nm:List UInt8)(ia:Int)(ib:Int)(ic:Int)(id:Int)(im:Int)(hg:(Yl qat qab qak qay&&(Yl qbt qbb qbk qby&&(Yl qct qcb qck qcy&&(Yl qdt qdb qdk qdy&&Yl qmt qmb qmk qmy))))=true):Zef rn rw qat qab qak qay qal qah qbt qbb qbk qby qbl qbh qct qcb qck qcy qcl qch qdt qdb qdk qdy qdl qdh qmt qmb qmk qmy qml qmh ro nm ia ib ic id im=some (.int .u32 (J6 rn rw qat qab qak qay qal qah qbt qbb qbk qby qbl qbh qct qcb qck qcy qcl qch qdt qdb qdk qdy qdl qdh qmt qmb qmk qmy qml qmh ro nm ia ib ic id im)):=by
 have h:Z75 (Zef rn rw qat qab qak qay qal qah qbt qbb qbk qby qbl qbh qct qcb qck qcy qcl qch qdt qdb qdk qdy qdl qdh qmt qmb qmk qmy qml qmh ro nm ia ib ic id im)=true:=by
  unfold Zef
  simp only[Bool.and_eq_true] at hg
  obtain⟨g1,g2,g3,g4,g5⟩:=hg
  simp only[g1,g2,g3,g4,g5,Ym,W9,J7]
  repeat (first|rfl|apply Zx)
 unfold J6
 generalize Zef rn rw qat qab qak qay qal qah qbt qbb qbk qby qbl qbh qct qcb qck qcy qcl qch qdt qdb qdk qdy qdl qdh qmt qmb qmk qmy qml qmh ro nm ia ib ic id im=x at h ⊢
 unfold Z75 at h
 split at h
 ·rfl
 ·cases h
def Znd:List AV→Option AV
 |[.agg (.str rn::.int .u32 rw::.int .i8 qat::.int .i8 qab::.int .i8 qak::.int .i8 qay::.int .i32 qal::.int .i32 qah::.int .i8 qbt::.int .i8 qbb::.int .i8 qbk::.int .i8 qby::.int .i32 qbl::.int .i32 qbh::.int .i8 qct::.int .i8 qcb::.int .i8 qck::.int .i8 qcy::.int .i32 qcl::.int .i32 qch::.int .i8 qdt::.int .i8 qdb::.int .i8 qdk::.int .i8 qdy::.int .i32 qdl::.int .i32 qdh::.int .i8 qmt::.int .i8 qmb::.int .i8 qmk::.int .i8 qmy::.int .i32 qml::.int .i32 qmh::.str ro::[]),.agg [.str nm,.int .i64 ia,.int .i64 ib,.int .i64 ic,.int .i64 id,.int .i64 im]]=>bif (Yl qat qab qak qay&&(Yl qbt qbb qbk qby&&(Yl qct qcb qck qcy&&(Yl qdt qdb qdk qdy&&Yl qmt qmb qmk qmy)))) then some (.int .u32 (J6 rn rw qat qab qak qay qal qah qbt qbb qbk qby qbl qbh qct qcb qck qcy qcl qch qdt qdb qdk qdy qdl qdh qmt qmb qmk qmy qml qmh ro nm ia ib ic id im)) else none
 |_=>none
def Zhj:List AV→Option AV
 |[.agg (.str rn::.int .u32 rw::.int .i8 qat::.int .i8 qab::.int .i8 qak::.int .i8 qay::.int .i32 qal::.int .i32 qah::.int .i8 qbt::.int .i8 qbb::.int .i8 qbk::.int .i8 qby::.int .i32 qbl::.int .i32 qbh::.int .i8 qct::.int .i8 qcb::.int .i8 qck::.int .i8 qcy::.int .i32 qcl::.int .i32 qch::.int .i8 qdt::.int .i8 qdb::.int .i8 qdk::.int .i8 qdy::.int .i32 qdl::.int .i32 qdh::.int .i8 qmt::.int .i8 qmb::.int .i8 qmk::.int .i8 qmy::.int .i32 qml::.int .i32 qmh::.str ro::[]),.agg [.str nm,.int .i64 ia,.int .i64 ib,.int .i64 ic,.int .i64 id,.int .i64 im]]=>bif Ze3 qmk qmy then some (.int .i64 (Kb rn rw qat qab qak qay qal qah qbt qbb qbk qby qbl qbh qct qcb qck qcy qcl qch qdt qdb qdk qdy qdl qdh qmt qmb qmk qmy qml qmh ro nm ia ib ic id im)) else none
 |_=>none
def AF5:Nat→List AV→Option AV:=fun f args=>bif Nat.beq f 63 then Zhj args else bif Nat.beq f 64 then Znd args else none
theorem Yly(f:Nat)(args:List AV)(v:AV)(h:AF5 f args=some v):∃(E:Env)(n:Nat)(s:Smk AV),Qp E s∧(∀ w,Z4 gl w→EnvOk E Tryz.prog (Kept gl w))∧(gl.all fun x=>Nat.blt x.1 E.ng)=true∧(E.fn f).isSome=true∧(∀ a∈args,Plain a)∧∃ o,W2 E s Qe n (.call f args (Yc E.ng gl)) o jK=some v:=by
 unfold AF5 at h
 simp only[Bool.cond_eq_ite,Nat.beq_eq] at h
 split at h
 ·rename_i e
  subst e
  unfold Zhj at h
  split at h
  ·rw[Bool.cond_eq_ite] at h
   split at h
   ·rename_i hg
    simp only[Option.some.injEq] at h
    subst h
    exact⟨AL4,1000,_,Z0i,Yn7,Ww,by kernel_rfl,Zh rfl,⟨[],(Zyl ..).trans (Zhu (hg:=hg) ..)⟩⟩
   ·cases h
  ·cases h
 split at h
 ·rename_i e
  subst e
  unfold Znd at h
  split at h
  ·rw[Bool.cond_eq_ite] at h
   split at h
   ·rename_i hg
    simp only[Option.some.injEq] at h
    subst h
    exact⟨AL4,1000,_,Z0i,Yn7,Ww,by kernel_rfl,Zh rfl,⟨[],(Z3q ..).trans (Zmk (hg:=hg) ..)⟩⟩
   ·cases h
  ·cases h
 ·cases h
def Zty{α:Type}(args:List AV)(H:AHeap)(k:AV→AHeap→Option α):Option α:=match args with
 |[.agg (.str rn::.int .u32 rw::.int .i8 qat::.int .i8 qab::.int .i8 qak::.int .i8 qay::.int .i32 qal::.int .i32 qah::.int .i8 qbt::.int .i8 qbb::.int .i8 qbk::.int .i8 qby::.int .i32 qbl::.int .i32 qbh::.int .i8 qct::.int .i8 qcb::.int .i8 qck::.int .i8 qcy::.int .i32 qcl::.int .i32 qch::.int .i8 qdt::.int .i8 qdb::.int .i8 qdk::.int .i8 qdy::.int .i32 qdl::.int .i32 qdh::.int .i8 qmt::.int .i8 qmb::.int .i8 qmk::.int .i8 qmy::.int .i32 qml::.int .i32 qmh::.str ro::[]),.agg [.str nm,.int .i64 ia,.int .i64 ib,.int .i64 ic,.int .i64 id,.int .i64 im]]=>bc (Ze3 qmk qmy) (k (.int .i64 (Kb rn rw qat qab qak qay qal qah qbt qbb qbk qby qbl qbh qct qcb qck qcy qcl qch qdt qdb qdk qdy qdl qdh qmt qmb qmk qmy qml qmh ro nm ia ib ic id im)) H) none
 |_=>none
def Z8x{α:Type}(args:List AV)(H:AHeap)(k:AV→AHeap→Option α):Option α:=match args with
 |[.agg (.str rn::.int .u32 rw::.int .i8 qat::.int .i8 qab::.int .i8 qak::.int .i8 qay::.int .i32 qal::.int .i32 qah::.int .i8 qbt::.int .i8 qbb::.int .i8 qbk::.int .i8 qby::.int .i32 qbl::.int .i32 qbh::.int .i8 qct::.int .i8 qcb::.int .i8 qck::.int .i8 qcy::.int .i32 qcl::.int .i32 qch::.int .i8 qdt::.int .i8 qdb::.int .i8 qdk::.int .i8 qdy::.int .i32 qdl::.int .i32 qdh::.int .i8 qmt::.int .i8 qmb::.int .i8 qmk::.int .i8 qmy::.int .i32 qml::.int .i32 qmh::.str ro::[]),.agg [.str nm,.int .i64 ia,.int .i64 ib,.int .i64 ic,.int .i64 id,.int .i64 im]]=>bc ((Yl qat qab qak qay&&(Yl qbt qbb qbk qby&&(Yl qct qcb qck qcy&&(Yl qdt qdb qdk qdy&&Yl qmt qmb qmk qmy))))) (k (.int .u32 (J6 rn rw qat qab qak qay qal qah qbt qbb qbk qby qbl qbh qct qcb qck qcy qcl qch qdt qdb qdk qdy qdl qdh qmt qmb qmk qmy qml qmh ro nm ia ib ic id im)) H) none
 |_=>none
end
end Go.Proofs.YtaakhjmfojoodaaGreatDoor
