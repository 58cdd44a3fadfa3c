/- Package arm's rows: what an instruction is refused for, its word. -/
import Derived.Test.YtpmlihmaodpmfaaGreatDoorArmLib0
import Derived.KernelRfl
namespace Go.Proofs.YtpmlihmaodpmfaaGreatDoor
open Go Go.Vai
noncomputable section
set_option maxRecDepth 100000
/-- A row whose number may be divided. -/
def okImm (k y : Int) : Bool := ieq k (.ofNat 0) || (ieq k (.ofNat 3) || !(ieq (wrapR .i64 y) (.ofNat 0)))
/-! arFaulty -/
def arFaultyT (_rn : List UInt8) (_rw : Int) (qat : Int) (qab : Int) (qak : Int) (qay : Int) (qal : Int) (qah : Int) (qbt : Int) (qbb : Int) (qbk : Int) (qby : Int) (qbl : Int) (qbh : Int) (qct : Int) (qcb : Int) (qck : Int) (qcy : Int) (qcl : Int) (qch : Int) (qdt : Int) (qdb : Int) (qdk : Int) (qdy : Int) (qdl : Int) (qdh : Int) (_qmt : Int) (_qmb : Int) (qmk : Int) (qmy : Int) (qml : Int) (qmh : Int) (_ro : List UInt8) (_nm : List UInt8) (ia : Int) (ib : Int) (ic : Int) (id : Int) (im : Int) : Option AV := bc (!(arSmallB qat qab qak qay qal qah ia)) (some (.int .i64 (.ofNat 13))) (bc (!(arSmallB qbt qbb qbk qby qbl qbh ib)) (some (.int .i64 (.ofNat 13))) (bc (!(arSmallB qct qcb qck qcy qcl qch ic)) (some (.int .i64 (.ofNat 13))) (bc (!(arSmallB qdt qdb qdk qdy qdl qdh id)) (some (.int .i64 (.ofNat 13))) (bc (ieq qmk (.ofNat 0)) (bc (!(ieq im (.ofNat 0))) (some (.int .i64 (.ofNat 13))) (bc (ieq qmk (.ofNat 0)) (some (.int .i64 (.ofNat 0))) (bc (ieq qmk (.ofNat 3)) (bc (!(ofK (wrapR .u64 im))) (some (.int .i64 (.ofNat 3))) (some (.int .i64 (.ofNat 0)))) (bc (ilt im (wrapR .i64 qml)) (some (.int .i64 (.ofNat 3))) (bc (ilt (wrapR .i64 qmh) im) (some (.int .i64 (.ofNat 3))) (bc (ieq (wrapR .i64 qmy) (.ofNat 0)) (none) (bc (!(ieq (Int.tmod im (wrapR .i64 qmy)) (.ofNat 0))) (some (.int .i64 (.ofNat 10))) (some (.int .i64 (.ofNat 0)))))))))) (bc (ieq qmk (.ofNat 0)) (some (.int .i64 (.ofNat 0))) (bc (ieq qmk (.ofNat 3)) (bc (!(ofK (wrapR .u64 im))) (some (.int .i64 (.ofNat 3))) (some (.int .i64 (.ofNat 0)))) (bc (ilt im (wrapR .i64 qml)) (some (.int .i64 (.ofNat 3))) (bc (ilt (wrapR .i64 qmh) im) (some (.int .i64 (.ofNat 3))) (bc (ieq (wrapR .i64 qmy) (.ofNat 0)) (none) (bc (!(ieq (Int.tmod im (wrapR .i64 qmy)) (.ofNat 0))) (some (.int .i64 (.ofNat 10))) (some (.int .i64 (.ofNat 0)))))))))))))
theorem arFaultyT_eq (rn : List UInt8) (rw : Int) (qat : Int) (qab : Int) (qak : Int) (qay : Int) (qal : Int) (qah : Int) (qbt : Int) (qbb : Int) (qbk : Int) (qby : Int) (qbl : Int) (qbh : Int) (qct : Int) (qcb : Int) (qck : Int) (qcy : Int) (qcl : Int) (qch : Int) (qdt : Int) (qdb : Int) (qdk : Int) (qdy : Int) (qdl : Int) (qdh : Int) (qmt : Int) (qmb : Int) (qmk : Int) (qmy : Int) (qml : Int) (qmh : Int) (ro : List UInt8) (nm : List UInt8) (ia : Int) (ib : Int) (ic : Int) (id : Int) (im : Int) : callPS AL4 SKAL4 noPin 1000 (.call 51 [.agg (.str rn :: .int .u32 rw :: .int .i8 qat :: .int .i8 qab :: .int .i8 qak :: .int .i8 qay :: .int .i32 qal :: .int .i32 qah :: .int .i8 qbt :: .int .i8 qbb :: .int .i8 qbk :: .int .i8 qby :: .int .i32 qbl :: .int .i32 qbh :: .int .i8 qct :: .int .i8 qcb :: .int .i8 qck :: .int .i8 qcy :: .int .i32 qcl :: .int .i32 qch :: .int .i8 qdt :: .int .i8 qdb :: .int .i8 qdk :: .int .i8 qdy :: .int .i32 qdl :: .int .i32 qdh :: .int .i8 qmt :: .int .i8 qmb :: .int .i8 qmk :: .int .i8 qmy :: .int .i32 qml :: .int .i32 qmh :: .str ro :: []), .agg [.str nm, .int .i64 ia, .int .i64 ib, .int .i64 ic, .int .i64 id, .int .i64 im]] (gHeap 12 gl)) [] jK = arFaultyT rn rw qat qab qak qay qal qah qbt qbb qbk qby qbl qbh qct qcb qck qcy qcl qch qdt qdb qdk qdy qdl qdh qmt qmb qmk qmy qml qmh ro nm ia ib ic id im := by kernel_rfl
def arFault (rn : List UInt8) (rw : Int) (qat : Int) (qab : Int) (qak : Int) (qay : Int) (qal : Int) (qah : Int) (qbt : Int) (qbb : Int) (qbk : Int) (qby : Int) (qbl : Int) (qbh : Int) (qct : Int) (qcb : Int) (qck : Int) (qcy : Int) (qcl : Int) (qch : Int) (qdt : Int) (qdb : Int) (qdk : Int) (qdy : Int) (qdl : Int) (qdh : Int) (qmt : Int) (qmb : Int) (qmk : Int) (qmy : Int) (qml : Int) (qmh : Int) (ro : List UInt8) (nm : List UInt8) (ia : Int) (ib : Int) (ic : Int) (id : Int) (im : Int) : Int := intV (at_ [] ((arFaultyT rn rw qat qab qak qay qal qah qbt qbb qbk qby qbl qbh qct qcb qck qcy qcl qch qdt qdb qdk qdy qdl qdh qmt qmb qmk qmy qml qmh ro nm ia ib ic id im).getD .nilp))
def arFaultyS : Option AV → Bool
  | some (.int .i64 _) => true
  | _ => false
theorem arFaultyT_val (rn : List UInt8) (rw : Int) (qat : Int) (qab : Int) (qak : Int) (qay : Int) (qal : Int) (qah : Int) (qbt : Int) (qbb : Int) (qbk : Int) (qby : Int) (qbl : Int) (qbh : Int) (qct : Int) (qcb : Int) (qck : Int) (qcy : Int) (qcl : Int) (qch : Int) (qdt : Int) (qdb : Int) (qdk : Int) (qdy : Int) (qdl : Int) (qdh : Int) (qmt : Int) (qmb : Int) (qmk : Int) (qmy : Int) (qml : Int) (qmh : Int) (ro : List UInt8) (nm : List UInt8) (ia : Int) (ib : Int) (ic : Int) (id : Int) (im : Int) (hg : okImm qmk qmy = true) : arFaultyT rn rw qat qab qak qay qal qah qbt qbb qbk qby qbl qbh qct qcb qck qcy qcl qch qdt qdb qdk qdy qdl qdh qmt qmb qmk qmy qml qmh ro nm ia ib ic id im = some (.int .i64 (arFault rn rw qat qab qak qay qal qah qbt qbb qbk qby qbl qbh qct qcb qck qcy qcl qch qdt qdb qdk qdy qdl qdh qmt qmb qmk qmy qml qmh ro nm ia ib ic id im)) := by
  have h : arFaultyS (arFaultyT rn rw qat qab qak qay qal qah qbt qbb qbk qby qbl qbh qct qcb qck qcy qcl qch qdt qdb qdk qdy qdl qdh qmt qmb qmk qmy qml qmh ro nm ia ib ic id im) = true := by
    unfold arFaultyT
    cases e1 : ieq qmk (.ofNat 0) with
    | true =>
      simp only [bc_true]
      repeat (first | rfl | apply bc_sh)
    | false =>
      cases e2 : ieq qmk (.ofNat 3) with
      | true =>
        simp only [bc_true, bc_false]
        repeat (first | rfl | apply bc_sh)
      | false =>
        have e3 : ieq (wrapR .i64 qmy) (.ofNat 0) = false := by
          unfold okImm at hg
          rw [e1, e2] at hg
          simpa using hg
        simp only [e3, bc_false]
        repeat (first | rfl | apply bc_sh)
  unfold arFault
  generalize arFaultyT rn rw qat qab qak qay qal qah qbt qbb qbk qby qbl qbh qct qcb qck qcy qcl qch qdt qdb qdk qdy qdl qdh qmt qmb qmk qmy qml qmh ro nm ia ib ic id im = x at h ⊢
  unfold arFaultyS at h
  split at h
  · rfl
  · cases h
/-! arBits -/
def arBitsT (_rn : List UInt8) (rw : Int) (qat : Int) (qab : Int) (qak : Int) (qay : Int) (qal : Int) (qah : Int) (qbt : Int) (qbb : Int) (qbk : Int) (qby : Int) (qbl : Int) (qbh : Int) (qct : Int) (qcb : Int) (qck : Int) (qcy : Int) (qcl : Int) (qch : Int) (qdt : Int) (qdb : Int) (qdk : Int) (qdy : Int) (qdl : Int) (qdh : Int) (qmt : Int) (qmb : Int) (qmk : Int) (qmy : Int) (qml : Int) (qmh : Int) (_ro : List UInt8) (_nm : List UInt8) (ia : Int) (ib : Int) (ic : Int) (id : Int) (im : Int) : Option AV := bc (okNum qat qab qak qay) (bc (AV.eqb (.int .u32 rw) (.int .u32 rw)) (bc (AV.eqb (.agg [.int .i8 qbt, .int .i8 qbb, .int .i8 qbk, .int .i8 qby, .int .i32 qbl, .int .i32 qbh]) (.agg [.int .i8 qbt, .int .i8 qbb, .int .i8 qbk, .int .i8 qby, .int .i32 qbl, .int .i32 qbh])) (bc (AV.eqb (.int .i64 ib) (.int .i64 ib)) (bc (okNum qbt qbb qbk qby) (bc (AV.eqb (.int .u32 (wrapR .u32 (orI .u32 rw (arPutV qat qab qak qay qal qah ia)))) (.int .u32 (wrapR .u32 (orI .u32 rw (arPutV qat qab qak qay qal qah ia))))) (bc (AV.eqb (.int .u32 rw) (.int .u32 rw)) (bc (AV.eqb (.agg [.int .i8 qct, .int .i8 qcb, .int .i8 qck, .int .i8 qcy, .int .i32 qcl, .int .i32 qch]) (.agg [.int .i8 qct, .int .i8 qcb, .int .i8 qck, .int .i8 qcy, .int .i32 qcl, .int .i32 qch])) (bc (AV.eqb (.agg [.int .i8 qct, .int .i8 qcb, .int .i8 qck, .int .i8 qcy, .int .i32 qcl, .int .i32 qch]) (.agg [.int .i8 qct, .int .i8 qcb, .int .i8 qck, .int .i8 qcy, .int .i32 qcl, .int .i32 qch])) (bc (AV.eqb (.int .i64 ic) (.int .i64 ic)) (bc (AV.eqb (.int .i64 ic) (.int .i64 ic)) (bc (okNum qct qcb qck qcy) (bc (AV.eqb (.int .u32 (wrapR .u32 (orI .u32 (wrapR .u32 (orI .u32 rw (arPutV qat qab qak qay qal qah ia))) (arPutV qbt qbb qbk qby qbl qbh ib)))) (.int .u32 (wrapR .u32 (orI .u32 (wrapR .u32 (orI .u32 rw (arPutV qat qab qak qay qal qah ia))) (arPutV qbt qbb qbk qby qbl qbh ib))))) (bc (AV.eqb (.int .u32 (wrapR .u32 (orI .u32 rw (arPutV qat qab qak qay qal qah ia)))) (.int .u32 (wrapR .u32 (orI .u32 rw (arPutV qat qab qak qay qal qah ia))))) (bc (AV.eqb (.int .u32 rw) (.int .u32 rw)) (bc (AV.eqb (.agg [.int .i8 qdt, .int .i8 qdb, .int .i8 qdk, .int .i8 qdy, .int .i32 qdl, .int .i32 qdh]) (.agg [.int .i8 qdt, .int .i8 qdb, .int .i8 qdk, .int .i8 qdy, .int .i32 qdl, .int .i32 qdh])) (bc (AV.eqb (.agg [.int .i8 qdt, .int .i8 qdb, .int .i8 qdk, .int .i8 qdy, .int .i32 qdl, .int .i32 qdh]) (.agg [.int .i8 qdt, .int .i8 qdb, .int .i8 qdk, .int .i8 qdy, .int .i32 qdl, .int .i32 qdh])) (bc (AV.eqb (.agg [.int .i8 qdt, .int .i8 qdb, .int .i8 qdk, .int .i8 qdy, .int .i32 qdl, .int .i32 qdh]) (.agg [.int .i8 qdt, .int .i8 qdb, .int .i8 qdk, .int .i8 qdy, .int .i32 qdl, .int .i32 qdh])) (bc (AV.eqb (.int .i64 id) (.int .i64 id)) (bc (AV.eqb (.int .i64 id) (.int .i64 id)) (bc (AV.eqb (.int .i64 id) (.int .i64 id)) (bc (okNum qdt qdb qdk qdy) (bc (AV.eqb (.int .u32 (wrapR .u32 (orI .u32 (wrapR .u32 (orI .u32 (wrapR .u32 (orI .u32 rw (arPutV qat qab qak qay qal qah ia))) (arPutV qbt qbb qbk qby qbl qbh ib))) (arPutV qct qcb qck qcy qcl qch ic)))) (.int .u32 (wrapR .u32 (orI .u32 (wrapR .u32 (orI .u32 (wrapR .u32 (orI .u32 rw (arPutV qat qab qak qay qal qah ia))) (arPutV qbt qbb qbk qby qbl qbh ib))) (arPutV qct qcb qck qcy qcl qch ic))))) (bc (AV.eqb (.int .u32 (wrapR .u32 (orI .u32 (wrapR .u32 (orI .u32 rw (arPutV qat qab qak qay qal qah ia))) (arPutV qbt qbb qbk qby qbl qbh ib)))) (.int .u32 (wrapR .u32 (orI .u32 (wrapR .u32 (orI .u32 rw (arPutV qat qab qak qay qal qah ia))) (arPutV qbt qbb qbk qby qbl qbh ib))))) (bc (AV.eqb (.int .u32 (wrapR .u32 (orI .u32 rw (arPutV qat qab qak qay qal qah ia)))) (.int .u32 (wrapR .u32 (orI .u32 rw (arPutV qat qab qak qay qal qah ia))))) (bc (AV.eqb (.int .u32 rw) (.int .u32 rw)) (bc (AV.eqb (.agg [.int .i8 qmt, .int .i8 qmb, .int .i8 qmk, .int .i8 qmy, .int .i32 qml, .int .i32 qmh]) (.agg [.int .i8 qmt, .int .i8 qmb, .int .i8 qmk, .int .i8 qmy, .int .i32 qml, .int .i32 qmh])) (bc (AV.eqb (.agg [.int .i8 qmt, .int .i8 qmb, .int .i8 qmk, .int .i8 qmy, .int .i32 qml, .int .i32 qmh]) (.agg [.int .i8 qmt, .int .i8 qmb, .int .i8 qmk, .int .i8 qmy, .int .i32 qml, .int .i32 qmh])) (bc (AV.eqb (.agg [.int .i8 qmt, .int .i8 qmb, .int .i8 qmk, .int .i8 qmy, .int .i32 qml, .int .i32 qmh]) (.agg [.int .i8 qmt, .int .i8 qmb, .int .i8 qmk, .int .i8 qmy, .int .i32 qml, .int .i32 qmh])) (bc (AV.eqb (.agg [.int .i8 qmt, .int .i8 qmb, .int .i8 qmk, .int .i8 qmy, .int .i32 qml, .int .i32 qmh]) (.agg [.int .i8 qmt, .int .i8 qmb, .int .i8 qmk, .int .i8 qmy, .int .i32 qml, .int .i32 qmh])) (bc (AV.eqb (.int .i64 im) (.int .i64 im)) (bc (AV.eqb (.int .i64 im) (.int .i64 im)) (bc (AV.eqb (.int .i64 im) (.int .i64 im)) (bc (AV.eqb (.int .i64 im) (.int .i64 im)) (bc (okNum qmt qmb qmk qmy) (bc (AV.eqb (.int .u32 (wrapR .u32 (orI .u32 (wrapR .u32 (orI .u32 (wrapR .u32 (orI .u32 (wrapR .u32 (orI .u32 rw (arPutV qat qab qak qay qal qah ia))) (arPutV qbt qbb qbk qby qbl qbh ib))) (arPutV qct qcb qck qcy qcl qch ic))) (arPutV qdt qdb qdk qdy qdl qdh id)))) (.int .u32 (wrapR .u32 (orI .u32 (wrapR .u32 (orI .u32 (wrapR .u32 (orI .u32 (wrapR .u32 (orI .u32 rw (arPutV qat qab qak qay qal qah ia))) (arPutV qbt qbb qbk qby qbl qbh ib))) (arPutV qct qcb qck qcy qcl qch ic))) (arPutV qdt qdb qdk qdy qdl qdh id))))) (bc (AV.eqb (.int .u32 (wrapR .u32 (orI .u32 (wrapR .u32 (orI .u32 (wrapR .u32 (orI .u32 rw (arPutV qat qab qak qay qal qah ia))) (arPutV qbt qbb qbk qby qbl qbh ib))) (arPutV qct qcb qck qcy qcl qch ic)))) (.int .u32 (wrapR .u32 (orI .u32 (wrapR .u32 (orI .u32 (wrapR .u32 (orI .u32 rw (arPutV qat qab qak qay qal qah ia))) (arPutV qbt qbb qbk qby qbl qbh ib))) (arPutV qct qcb qck qcy qcl qch ic))))) (bc (AV.eqb (.int .u32 (wrapR .u32 (orI .u32 (wrapR .u32 (orI .u32 rw (arPutV qat qab qak qay qal qah ia))) (arPutV qbt qbb qbk qby qbl qbh ib)))) (.int .u32 (wrapR .u32 (orI .u32 (wrapR .u32 (orI .u32 rw (arPutV qat qab qak qay qal qah ia))) (arPutV qbt qbb qbk qby qbl qbh ib))))) (bc (AV.eqb (.int .u32 (wrapR .u32 (orI .u32 rw (arPutV qat qab qak qay qal qah ia)))) (.int .u32 (wrapR .u32 (orI .u32 rw (arPutV qat qab qak qay qal qah ia))))) (bc (AV.eqb (.int .u32 rw) (.int .u32 rw)) (some (.int .u32 (wrapR .u32 (orI .u32 (wrapR .u32 (orI .u32 (wrapR .u32 (orI .u32 (wrapR .u32 (orI .u32 (wrapR .u32 (orI .u32 rw (arPutV qat qab qak qay qal qah ia))) (arPutV qbt qbb qbk qby qbl qbh ib))) (arPutV qct qcb qck qcy qcl qch ic))) (arPutV qdt qdb qdk qdy qdl qdh id))) (arPutV qmt qmb qmk qmy qml qmh im))))) (none)) (none)) (none)) (none)) (none)) (none)) (none)) (none)) (none)) (none)) (none)) (none)) (none)) (none)) (none)) (none)) (none)) (none)) (none)) (none)) (none)) (none)) (none)) (none)) (none)) (none)) (none)) (none)) (none)) (none)) (none)) (none)) (none)) (none)) (none)) (none)) (none)) (none)) (none)) (none)
theorem arBitsT_eq (rn : List UInt8) (rw : Int) (qat : Int) (qab : Int) (qak : Int) (qay : Int) (qal : Int) (qah : Int) (qbt : Int) (qbb : Int) (qbk : Int) (qby : Int) (qbl : Int) (qbh : Int) (qct : Int) (qcb : Int) (qck : Int) (qcy : Int) (qcl : Int) (qch : Int) (qdt : Int) (qdb : Int) (qdk : Int) (qdy : Int) (qdl : Int) (qdh : Int) (qmt : Int) (qmb : Int) (qmk : Int) (qmy : Int) (qml : Int) (qmh : Int) (ro : List UInt8) (nm : List UInt8) (ia : Int) (ib : Int) (ic : Int) (id : Int) (im : Int) : callPS AL4 SKAL4 noPin 1000 (.call 52 [.agg (.str rn :: .int .u32 rw :: .int .i8 qat :: .int .i8 qab :: .int .i8 qak :: .int .i8 qay :: .int .i32 qal :: .int .i32 qah :: .int .i8 qbt :: .int .i8 qbb :: .int .i8 qbk :: .int .i8 qby :: .int .i32 qbl :: .int .i32 qbh :: .int .i8 qct :: .int .i8 qcb :: .int .i8 qck :: .int .i8 qcy :: .int .i32 qcl :: .int .i32 qch :: .int .i8 qdt :: .int .i8 qdb :: .int .i8 qdk :: .int .i8 qdy :: .int .i32 qdl :: .int .i32 qdh :: .int .i8 qmt :: .int .i8 qmb :: .int .i8 qmk :: .int .i8 qmy :: .int .i32 qml :: .int .i32 qmh :: .str ro :: []), .agg [.str nm, .int .i64 ia, .int .i64 ib, .int .i64 ic, .int .i64 id, .int .i64 im]] (gHeap 12 gl)) [] jK = arBitsT rn rw qat qab qak qay qal qah qbt qbb qbk qby qbl qbh qct qcb qck qcy qcl qch qdt qdb qdk qdy qdl qdh qmt qmb qmk qmy qml qmh ro nm ia ib ic id im := by kernel_rfl
def arBitsV (rn : List UInt8) (rw : Int) (qat : Int) (qab : Int) (qak : Int) (qay : Int) (qal : Int) (qah : Int) (qbt : Int) (qbb : Int) (qbk : Int) (qby : Int) (qbl : Int) (qbh : Int) (qct : Int) (qcb : Int) (qck : Int) (qcy : Int) (qcl : Int) (qch : Int) (qdt : Int) (qdb : Int) (qdk : Int) (qdy : Int) (qdl : Int) (qdh : Int) (qmt : Int) (qmb : Int) (qmk : Int) (qmy : Int) (qml : Int) (qmh : Int) (ro : List UInt8) (nm : List UInt8) (ia : Int) (ib : Int) (ic : Int) (id : Int) (im : Int) : Int := intV (at_ [] ((arBitsT rn rw qat qab qak qay qal qah qbt qbb qbk qby qbl qbh qct qcb qck qcy qcl qch qdt qdb qdk qdy qdl qdh qmt qmb qmk qmy qml qmh ro nm ia ib ic id im).getD .nilp))
def arBitsS : Option AV → Bool
  | some (.int .u32 _) => true
  | _ => false
theorem arBitsT_val (rn : List UInt8) (rw : Int) (qat : Int) (qab : Int) (qak : Int) (qay : Int) (qal : Int) (qah : Int) (qbt : Int) (qbb : Int) (qbk : Int) (qby : Int) (qbl : Int) (qbh : Int) (qct : Int) (qcb : Int) (qck : Int) (qcy : Int) (qcl : Int) (qch : Int) (qdt : Int) (qdb : Int) (qdk : Int) (qdy : Int) (qdl : Int) (qdh : Int) (qmt : Int) (qmb : Int) (qmk : Int) (qmy : Int) (qml : Int) (qmh : Int) (ro : List UInt8) (nm : List UInt8) (ia : Int) (ib : Int) (ic : Int) (id : Int) (im : Int) (hg : (okNum qat qab qak qay && (okNum qbt qbb qbk qby && (okNum qct qcb qck qcy && (okNum qdt qdb qdk qdy && okNum qmt qmb qmk qmy)))) = true) : arBitsT rn rw qat qab qak qay qal qah qbt qbb qbk qby qbl qbh qct qcb qck qcy qcl qch qdt qdb qdk qdy qdl qdh qmt qmb qmk qmy qml qmh ro nm ia ib ic id im = some (.int .u32 (arBitsV rn rw qat qab qak qay qal qah qbt qbb qbk qby qbl qbh qct qcb qck qcy qcl qch qdt qdb qdk qdy qdl qdh qmt qmb qmk qmy qml qmh ro nm ia ib ic id im)) := by
  have h : arBitsS (arBitsT rn rw qat qab qak qay qal qah qbt qbb qbk qby qbl qbh qct qcb qck qcy qcl qch qdt qdb qdk qdy qdl qdh qmt qmb qmk qmy qml qmh ro nm ia ib ic id im) = true := by
    unfold arBitsT
    simp only [Bool.and_eq_true] at hg
    obtain ⟨g1, g2, g3, g4, g5⟩ := hg
    simp only [g1, g2, g3, g4, g5, bc_true, eqb_int, eqb_agg]
    repeat (first | rfl | apply bc_sh)
  unfold arBitsV
  generalize arBitsT rn rw qat qab qak qay qal qah qbt qbb qbk qby qbl qbh qct qcb qck qcy qcl qch qdt qdb qdk qdy qdl qdh qmt qmb qmk qmy qml qmh ro nm ia ib ic id im = x at h ⊢
  unfold arBitsS at h
  split at h
  · rfl
  · cases h
/-! The table of level 5 -/
def arBitsF : List AV → Option AV
  | [.agg (.str rn :: .int .u32 rw :: .int .i8 qat :: .int .i8 qab :: .int .i8 qak :: .int .i8 qay :: .int .i32 qal :: .int .i32 qah :: .int .i8 qbt :: .int .i8 qbb :: .int .i8 qbk :: .int .i8 qby :: .int .i32 qbl :: .int .i32 qbh :: .int .i8 qct :: .int .i8 qcb :: .int .i8 qck :: .int .i8 qcy :: .int .i32 qcl :: .int .i32 qch :: .int .i8 qdt :: .int .i8 qdb :: .int .i8 qdk :: .int .i8 qdy :: .int .i32 qdl :: .int .i32 qdh :: .int .i8 qmt :: .int .i8 qmb :: .int .i8 qmk :: .int .i8 qmy :: .int .i32 qml :: .int .i32 qmh :: .str ro :: []), .agg [.str nm, .int .i64 ia, .int .i64 ib, .int .i64 ic, .int .i64 id, .int .i64 im]] => bif (okNum qat qab qak qay && (okNum qbt qbb qbk qby && (okNum qct qcb qck qcy && (okNum qdt qdb qdk qdy && okNum qmt qmb qmk qmy)))) then some (.int .u32 (arBitsV rn rw qat qab qak qay qal qah qbt qbb qbk qby qbl qbh qct qcb qck qcy qcl qch qdt qdb qdk qdy qdl qdh qmt qmb qmk qmy qml qmh ro nm ia ib ic id im)) else none
  | _ => none
def arFaultyF : List AV → Option AV
  | [.agg (.str rn :: .int .u32 rw :: .int .i8 qat :: .int .i8 qab :: .int .i8 qak :: .int .i8 qay :: .int .i32 qal :: .int .i32 qah :: .int .i8 qbt :: .int .i8 qbb :: .int .i8 qbk :: .int .i8 qby :: .int .i32 qbl :: .int .i32 qbh :: .int .i8 qct :: .int .i8 qcb :: .int .i8 qck :: .int .i8 qcy :: .int .i32 qcl :: .int .i32 qch :: .int .i8 qdt :: .int .i8 qdb :: .int .i8 qdk :: .int .i8 qdy :: .int .i32 qdl :: .int .i32 qdh :: .int .i8 qmt :: .int .i8 qmb :: .int .i8 qmk :: .int .i8 qmy :: .int .i32 qml :: .int .i32 qmh :: .str ro :: []), .agg [.str nm, .int .i64 ia, .int .i64 ib, .int .i64 ic, .int .i64 id, .int .i64 im]] => bif okImm qmk qmy then some (.int .i64 (arFault rn rw qat qab qak qay qal qah qbt qbb qbk qby qbl qbh qct qcb qck qcy qcl qch qdt qdb qdk qdy qdl qdh qmt qmb qmk qmy qml qmh ro nm ia ib ic id im)) else none
  | _ => none
def AF5 : Nat → List AV → Option AV := fun f args => bif Nat.beq f 51 then arFaultyF args else bif Nat.beq f 52 then arBitsF args else none
theorem af5_ok (f : Nat) (args : List AV) (v : AV) (h : AF5 f args = some v) : ∃ (E : Env) (n : Nat) (s : Smk AV), SmkOk E s ∧ (∀ w, GlobOk gl w → EnvOk E Tryz.prog (Kept gl w)) ∧ (gl.all fun x => Nat.blt x.1 E.ng) = true ∧ (E.fn f).isSome = true ∧ (∀ a ∈ args, Plain a) ∧ ∃ o, callPS E s noPin n (.call f args (gHeap E.ng gl)) o jK = some v := by
  unfold AF5 at h
  simp only [Bool.cond_eq_ite, Nat.beq_eq] at h
  split at h
  · rename_i e
    subst e
    unfold arFaultyF at h
    split at h
    · rw [Bool.cond_eq_ite] at h
      split at h
      · rename_i hg
        simp only [Option.some.injEq] at h
        subst h
        exact ⟨AL4, 1000, _, skAL4_ok, al4_ok, gl_ok, by kernel_rfl, plain_list rfl, ⟨[], (arFaultyT_eq ..).trans (arFaultyT_val (hg := hg) ..)⟩⟩
      · cases h
    · cases h
  split at h
  · rename_i e
    subst e
    unfold arBitsF at h
    split at h
    · rw [Bool.cond_eq_ite] at h
      split at h
      · rename_i hg
        simp only [Option.some.injEq] at h
        subst h
        exact ⟨AL4, 1000, _, skAL4_ok, al4_ok, gl_ok, by kernel_rfl, plain_list rfl, ⟨[], (arBitsT_eq ..).trans (arBitsT_val (hg := hg) ..)⟩⟩
      · cases h
    · cases h
  · cases h
def AL5 : Env := envOf Tryz.prog 12 [132, 131, 130, 133, 94, 99, 93, 54, 95, 51, 52] (orSm (extSm kinds) (orSm (plainSm MF0) (orSm (plainSm MF1) (orSm (plainSm MF2) (orSm (plainSm MF3) (orSm (plainSm AF4) (plainSm AF5)))))))
theorem al5_ok (w : World) (hw : GlobOk gl w) : EnvOk AL5 Tryz.prog (Kept gl w) := envOk_sm (by kernel_rfl) ((smOk_ext ext_ok).or ((plain_okS mf0_ok).or ((plain_okS mf1_ok).or ((plain_okS mf2_ok).or ((plain_okS mf3_ok).or ((plain_okS af4_ok).or (plain_okS af5_ok))))))) mixed_ok (fun _ _ _ h => h.1) (kept_carried hw).ext
def arFaultyK {α : Type} (args : List AV) (H : AHeap) (k : AV → AHeap → Option α) : Option α := match args with
  | [.agg (.str rn :: .int .u32 rw :: .int .i8 qat :: .int .i8 qab :: .int .i8 qak :: .int .i8 qay :: .int .i32 qal :: .int .i32 qah :: .int .i8 qbt :: .int .i8 qbb :: .int .i8 qbk :: .int .i8 qby :: .int .i32 qbl :: .int .i32 qbh :: .int .i8 qct :: .int .i8 qcb :: .int .i8 qck :: .int .i8 qcy :: .int .i32 qcl :: .int .i32 qch :: .int .i8 qdt :: .int .i8 qdb :: .int .i8 qdk :: .int .i8 qdy :: .int .i32 qdl :: .int .i32 qdh :: .int .i8 qmt :: .int .i8 qmb :: .int .i8 qmk :: .int .i8 qmy :: .int .i32 qml :: .int .i32 qmh :: .str ro :: []), .agg [.str nm, .int .i64 ia, .int .i64 ib, .int .i64 ic, .int .i64 id, .int .i64 im]] => bc (okImm qmk qmy) (k (.int .i64 (arFault rn rw qat qab qak qay qal qah qbt qbb qbk qby qbl qbh qct qcb qck qcy qcl qch qdt qdb qdk qdy qdl qdh qmt qmb qmk qmy qml qmh ro nm ia ib ic id im)) H) none
  | _ => none
def arBitsK {α : Type} (args : List AV) (H : AHeap) (k : AV → AHeap → Option α) : Option α := match args with
  | [.agg (.str rn :: .int .u32 rw :: .int .i8 qat :: .int .i8 qab :: .int .i8 qak :: .int .i8 qay :: .int .i32 qal :: .int .i32 qah :: .int .i8 qbt :: .int .i8 qbb :: .int .i8 qbk :: .int .i8 qby :: .int .i32 qbl :: .int .i32 qbh :: .int .i8 qct :: .int .i8 qcb :: .int .i8 qck :: .int .i8 qcy :: .int .i32 qcl :: .int .i32 qch :: .int .i8 qdt :: .int .i8 qdb :: .int .i8 qdk :: .int .i8 qdy :: .int .i32 qdl :: .int .i32 qdh :: .int .i8 qmt :: .int .i8 qmb :: .int .i8 qmk :: .int .i8 qmy :: .int .i32 qml :: .int .i32 qmh :: .str ro :: []), .agg [.str nm, .int .i64 ia, .int .i64 ib, .int .i64 ic, .int .i64 id, .int .i64 im]] => bc ((okNum qat qab qak qay && (okNum qbt qbb qbk qby && (okNum qct qcb qck qcy && (okNum qdt qdb qdk qdy && okNum qmt qmb qmk qmy))))) (k (.int .u32 (arBitsV rn rw qat qab qak qay qal qah qbt qbb qbk qby qbl qbh qct qcb qck qcy qcl qch qdt qdb qdk qdy qdl qdh qmt qmb qmk qmy qml qmh ro nm ia ib ic id im)) H) none
  | _ => none
theorem arGet_smAL5 (ft : Int) (fb : Int) (fk : Int) (fy : Int) (fl : Int) (fh : Int) (w : Int) (H : AHeap) (hg : (okNum ft fb fk fy) = true) : AL5.sm 54 [.agg [.int .i8 ft, .int .i8 fb, .int .i8 fk, .int .i8 fy, .int .i32 fl, .int .i32 fh], .int .u32 w] H = some (.int .i64 (arGetV ft fb fk fy fl fh w), H) := by
  have h : arGetF [.agg [.int .i8 ft, .int .i8 fb, .int .i8 fk, .int .i8 fy, .int .i32 fl, .int .i32 fh], .int .u32 w] = some (.int .i64 (arGetV ft fb fk fy fl fh w)) := by
    show (bif okNum ft fb fk fy then (some (.int .i64 (arGetV ft fb fk fy fl fh w)) : Option AV) else none) = _
    rw [hg]; rfl
  have e : AL5.sm 54 [.agg [.int .i8 ft, .int .i8 fb, .int .i8 fk, .int .i8 fy, .int .i32 fl, .int .i32 fh], .int .u32 w] H = Option.rec (motive := fun _ => Option (AV × AHeap)) none (fun r => some r) (Option.rec (motive := fun _ => Option (AV × AHeap)) none (fun v => some (v, H)) (arGetF [.agg [.int .i8 ft, .int .i8 fb, .int .i8 fk, .int .i8 fy, .int .i32 fl, .int .i32 fh], .int .u32 w])) := by kernel_rfl
  rw [e, h]
theorem arPut_smAL5 (ft : Int) (fb : Int) (fk : Int) (fy : Int) (fl : Int) (fh : Int) (n : Int) (H : AHeap) (hg : (okNum ft fb fk fy) = true) : AL5.sm 95 [.agg [.int .i8 ft, .int .i8 fb, .int .i8 fk, .int .i8 fy, .int .i32 fl, .int .i32 fh], .int .i64 n] H = some (.int .u32 (arPutV ft fb fk fy fl fh n), H) := by
  have h : arPutF [.agg [.int .i8 ft, .int .i8 fb, .int .i8 fk, .int .i8 fy, .int .i32 fl, .int .i32 fh], .int .i64 n] = some (.int .u32 (arPutV ft fb fk fy fl fh n)) := by
    show (bif okNum ft fb fk fy then (some (.int .u32 (arPutV ft fb fk fy fl fh n)) : Option AV) else none) = _
    rw [hg]; rfl
  have e : AL5.sm 95 [.agg [.int .i8 ft, .int .i8 fb, .int .i8 fk, .int .i8 fy, .int .i32 fl, .int .i32 fh], .int .i64 n] H = Option.rec (motive := fun _ => Option (AV × AHeap)) none (fun r => some r) (Option.rec (motive := fun _ => Option (AV × AHeap)) none (fun v => some (v, H)) (arPutF [.agg [.int .i8 ft, .int .i8 fb, .int .i8 fk, .int .i8 fy, .int .i32 fl, .int .i32 fh], .int .i64 n])) := by kernel_rfl
  rw [e, h]
theorem arFaulty_smAL5 (rn : List UInt8) (rw : Int) (qat : Int) (qab : Int) (qak : Int) (qay : Int) (qal : Int) (qah : Int) (qbt : Int) (qbb : Int) (qbk : Int) (qby : Int) (qbl : Int) (qbh : Int) (qct : Int) (qcb : Int) (qck : Int) (qcy : Int) (qcl : Int) (qch : Int) (qdt : Int) (qdb : Int) (qdk : Int) (qdy : Int) (qdl : Int) (qdh : Int) (qmt : Int) (qmb : Int) (qmk : Int) (qmy : Int) (qml : Int) (qmh : Int) (ro : List UInt8) (nm : List UInt8) (ia : Int) (ib : Int) (ic : Int) (id : Int) (im : Int) (H : AHeap) (hg : (okImm qmk qmy) = true) : AL5.sm 51 [.agg (.str rn :: .int .u32 rw :: .int .i8 qat :: .int .i8 qab :: .int .i8 qak :: .int .i8 qay :: .int .i32 qal :: .int .i32 qah :: .int .i8 qbt :: .int .i8 qbb :: .int .i8 qbk :: .int .i8 qby :: .int .i32 qbl :: .int .i32 qbh :: .int .i8 qct :: .int .i8 qcb :: .int .i8 qck :: .int .i8 qcy :: .int .i32 qcl :: .int .i32 qch :: .int .i8 qdt :: .int .i8 qdb :: .int .i8 qdk :: .int .i8 qdy :: .int .i32 qdl :: .int .i32 qdh :: .int .i8 qmt :: .int .i8 qmb :: .int .i8 qmk :: .int .i8 qmy :: .int .i32 qml :: .int .i32 qmh :: .str ro :: []), .agg [.str nm, .int .i64 ia, .int .i64 ib, .int .i64 ic, .int .i64 id, .int .i64 im]] H = some (.int .i64 (arFault rn rw qat qab qak qay qal qah qbt qbb qbk qby qbl qbh qct qcb qck qcy qcl qch qdt qdb qdk qdy qdl qdh qmt qmb qmk qmy qml qmh ro nm ia ib ic id im), H) := by
  have h : arFaultyF [.agg (.str rn :: .int .u32 rw :: .int .i8 qat :: .int .i8 qab :: .int .i8 qak :: .int .i8 qay :: .int .i32 qal :: .int .i32 qah :: .int .i8 qbt :: .int .i8 qbb :: .int .i8 qbk :: .int .i8 qby :: .int .i32 qbl :: .int .i32 qbh :: .int .i8 qct :: .int .i8 qcb :: .int .i8 qck :: .int .i8 qcy :: .int .i32 qcl :: .int .i32 qch :: .int .i8 qdt :: .int .i8 qdb :: .int .i8 qdk :: .int .i8 qdy :: .int .i32 qdl :: .int .i32 qdh :: .int .i8 qmt :: .int .i8 qmb :: .int .i8 qmk :: .int .i8 qmy :: .int .i32 qml :: .int .i32 qmh :: .str ro :: []), .agg [.str nm, .int .i64 ia, .int .i64 ib, .int .i64 ic, .int .i64 id, .int .i64 im]] = some (.int .i64 (arFault rn rw qat qab qak qay qal qah qbt qbb qbk qby qbl qbh qct qcb qck qcy qcl qch qdt qdb qdk qdy qdl qdh qmt qmb qmk qmy qml qmh ro nm ia ib ic id im)) := by
    show (bif okImm qmk qmy then (some (.int .i64 (arFault rn rw qat qab qak qay qal qah qbt qbb qbk qby qbl qbh qct qcb qck qcy qcl qch qdt qdb qdk qdy qdl qdh qmt qmb qmk qmy qml qmh ro nm ia ib ic id im)) : Option AV) else none) = _
    rw [hg]; rfl
  have e : AL5.sm 51 [.agg (.str rn :: .int .u32 rw :: .int .i8 qat :: .int .i8 qab :: .int .i8 qak :: .int .i8 qay :: .int .i32 qal :: .int .i32 qah :: .int .i8 qbt :: .int .i8 qbb :: .int .i8 qbk :: .int .i8 qby :: .int .i32 qbl :: .int .i32 qbh :: .int .i8 qct :: .int .i8 qcb :: .int .i8 qck :: .int .i8 qcy :: .int .i32 qcl :: .int .i32 qch :: .int .i8 qdt :: .int .i8 qdb :: .int .i8 qdk :: .int .i8 qdy :: .int .i32 qdl :: .int .i32 qdh :: .int .i8 qmt :: .int .i8 qmb :: .int .i8 qmk :: .int .i8 qmy :: .int .i32 qml :: .int .i32 qmh :: .str ro :: []), .agg [.str nm, .int .i64 ia, .int .i64 ib, .int .i64 ic, .int .i64 id, .int .i64 im]] H = Option.rec (motive := fun _ => Option (AV × AHeap)) none (fun v => some (v, H)) (arFaultyF [.agg (.str rn :: .int .u32 rw :: .int .i8 qat :: .int .i8 qab :: .int .i8 qak :: .int .i8 qay :: .int .i32 qal :: .int .i32 qah :: .int .i8 qbt :: .int .i8 qbb :: .int .i8 qbk :: .int .i8 qby :: .int .i32 qbl :: .int .i32 qbh :: .int .i8 qct :: .int .i8 qcb :: .int .i8 qck :: .int .i8 qcy :: .int .i32 qcl :: .int .i32 qch :: .int .i8 qdt :: .int .i8 qdb :: .int .i8 qdk :: .int .i8 qdy :: .int .i32 qdl :: .int .i32 qdh :: .int .i8 qmt :: .int .i8 qmb :: .int .i8 qmk :: .int .i8 qmy :: .int .i32 qml :: .int .i32 qmh :: .str ro :: []), .agg [.str nm, .int .i64 ia, .int .i64 ib, .int .i64 ic, .int .i64 id, .int .i64 im]]) := by kernel_rfl
  rw [e, h]
theorem arBits_smAL5 (rn : List UInt8) (rw : Int) (qat : Int) (qab : Int) (qak : Int) (qay : Int) (qal : Int) (qah : Int) (qbt : Int) (qbb : Int) (qbk : Int) (qby : Int) (qbl : Int) (qbh : Int) (qct : Int) (qcb : Int) (qck : Int) (qcy : Int) (qcl : Int) (qch : Int) (qdt : Int) (qdb : Int) (qdk : Int) (qdy : Int) (qdl : Int) (qdh : Int) (qmt : Int) (qmb : Int) (qmk : Int) (qmy : Int) (qml : Int) (qmh : Int) (ro : List UInt8) (nm : List UInt8) (ia : Int) (ib : Int) (ic : Int) (id : Int) (im : Int) (H : AHeap) (hg : ((okNum qat qab qak qay && (okNum qbt qbb qbk qby && (okNum qct qcb qck qcy && (okNum qdt qdb qdk qdy && okNum qmt qmb qmk qmy))))) = true) : AL5.sm 52 [.agg (.str rn :: .int .u32 rw :: .int .i8 qat :: .int .i8 qab :: .int .i8 qak :: .int .i8 qay :: .int .i32 qal :: .int .i32 qah :: .int .i8 qbt :: .int .i8 qbb :: .int .i8 qbk :: .int .i8 qby :: .int .i32 qbl :: .int .i32 qbh :: .int .i8 qct :: .int .i8 qcb :: .int .i8 qck :: .int .i8 qcy :: .int .i32 qcl :: .int .i32 qch :: .int .i8 qdt :: .int .i8 qdb :: .int .i8 qdk :: .int .i8 qdy :: .int .i32 qdl :: .int .i32 qdh :: .int .i8 qmt :: .int .i8 qmb :: .int .i8 qmk :: .int .i8 qmy :: .int .i32 qml :: .int .i32 qmh :: .str ro :: []), .agg [.str nm, .int .i64 ia, .int .i64 ib, .int .i64 ic, .int .i64 id, .int .i64 im]] H = some (.int .u32 (arBitsV rn rw qat qab qak qay qal qah qbt qbb qbk qby qbl qbh qct qcb qck qcy qcl qch qdt qdb qdk qdy qdl qdh qmt qmb qmk qmy qml qmh ro nm ia ib ic id im), H) := by
  have h : arBitsF [.agg (.str rn :: .int .u32 rw :: .int .i8 qat :: .int .i8 qab :: .int .i8 qak :: .int .i8 qay :: .int .i32 qal :: .int .i32 qah :: .int .i8 qbt :: .int .i8 qbb :: .int .i8 qbk :: .int .i8 qby :: .int .i32 qbl :: .int .i32 qbh :: .int .i8 qct :: .int .i8 qcb :: .int .i8 qck :: .int .i8 qcy :: .int .i32 qcl :: .int .i32 qch :: .int .i8 qdt :: .int .i8 qdb :: .int .i8 qdk :: .int .i8 qdy :: .int .i32 qdl :: .int .i32 qdh :: .int .i8 qmt :: .int .i8 qmb :: .int .i8 qmk :: .int .i8 qmy :: .int .i32 qml :: .int .i32 qmh :: .str ro :: []), .agg [.str nm, .int .i64 ia, .int .i64 ib, .int .i64 ic, .int .i64 id, .int .i64 im]] = some (.int .u32 (arBitsV rn rw qat qab qak qay qal qah qbt qbb qbk qby qbl qbh qct qcb qck qcy qcl qch qdt qdb qdk qdy qdl qdh qmt qmb qmk qmy qml qmh ro nm ia ib ic id im)) := by
    show (bif (okNum qat qab qak qay && (okNum qbt qbb qbk qby && (okNum qct qcb qck qcy && (okNum qdt qdb qdk qdy && okNum qmt qmb qmk qmy)))) then (some (.int .u32 (arBitsV rn rw qat qab qak qay qal qah qbt qbb qbk qby qbl qbh qct qcb qck qcy qcl qch qdt qdb qdk qdy qdl qdh qmt qmb qmk qmy qml qmh ro nm ia ib ic id im)) : Option AV) else none) = _
    rw [hg]; rfl
  have e : AL5.sm 52 [.agg (.str rn :: .int .u32 rw :: .int .i8 qat :: .int .i8 qab :: .int .i8 qak :: .int .i8 qay :: .int .i32 qal :: .int .i32 qah :: .int .i8 qbt :: .int .i8 qbb :: .int .i8 qbk :: .int .i8 qby :: .int .i32 qbl :: .int .i32 qbh :: .int .i8 qct :: .int .i8 qcb :: .int .i8 qck :: .int .i8 qcy :: .int .i32 qcl :: .int .i32 qch :: .int .i8 qdt :: .int .i8 qdb :: .int .i8 qdk :: .int .i8 qdy :: .int .i32 qdl :: .int .i32 qdh :: .int .i8 qmt :: .int .i8 qmb :: .int .i8 qmk :: .int .i8 qmy :: .int .i32 qml :: .int .i32 qmh :: .str ro :: []), .agg [.str nm, .int .i64 ia, .int .i64 ib, .int .i64 ic, .int .i64 id, .int .i64 im]] H = Option.rec (motive := fun _ => Option (AV × AHeap)) none (fun v => some (v, H)) (arBitsF [.agg (.str rn :: .int .u32 rw :: .int .i8 qat :: .int .i8 qab :: .int .i8 qak :: .int .i8 qay :: .int .i32 qal :: .int .i32 qah :: .int .i8 qbt :: .int .i8 qbb :: .int .i8 qbk :: .int .i8 qby :: .int .i32 qbl :: .int .i32 qbh :: .int .i8 qct :: .int .i8 qcb :: .int .i8 qck :: .int .i8 qcy :: .int .i32 qcl :: .int .i32 qch :: .int .i8 qdt :: .int .i8 qdb :: .int .i8 qdk :: .int .i8 qdy :: .int .i32 qdl :: .int .i32 qdh :: .int .i8 qmt :: .int .i8 qmb :: .int .i8 qmk :: .int .i8 qmy :: .int .i32 qml :: .int .i32 qmh :: .str ro :: []), .agg [.str nm, .int .i64 ia, .int .i64 ib, .int .i64 ic, .int .i64 id, .int .i64 im]]) := by kernel_rfl
  rw [e, h]
def SKAL5 {α : Type} : Smk α := fun f args H k => bif Nat.beq f 54 then arGetK args H k else (bif Nat.beq f 95 then arPutK args H k else (bif Nat.beq f 51 then arFaultyK args H k else (bif Nat.beq f 52 then arBitsK args H k else (smC AL5 f args H k))))
theorem skAL5_ok {α : Type} : SmkOk (α := α) AL5 SKAL5 := by
  intro f args H k r h
  unfold SKAL5 at h
  simp only [Bool.cond_eq_ite, Nat.beq_eq] at h
  split at h
  · rename_i e
    subst e
    unfold arGetK at h
    split at h
    · rename_i ft fb fk fy fl fh w
      cases hg : (okNum ft fb fk fy) with
      | false => rw [hg] at h; cases h
      | true =>
        rw [hg] at h
        exact ⟨_, _, arGet_smAL5 (H := H) (hg := hg) .., h⟩
    · cases h
  split at h
  · rename_i e
    subst e
    unfold arPutK at h
    split at h
    · rename_i ft fb fk fy fl fh n
      cases hg : (okNum ft fb fk fy) with
      | false => rw [hg] at h; cases h
      | true =>
        rw [hg] at h
        exact ⟨_, _, arPut_smAL5 (H := H) (hg := hg) .., h⟩
    · cases h
  split at h
  · rename_i e
    subst e
    unfold arFaultyK at h
    split at h
    · rename_i rn rw qat qab qak qay qal qah qbt qbb qbk qby qbl qbh qct qcb qck qcy qcl qch qdt qdb qdk qdy qdl qdh qmt qmb qmk qmy qml qmh ro nm ia ib ic id im
      cases hg : (okImm qmk qmy) with
      | false => rw [hg] at h; cases h
      | true =>
        rw [hg] at h
        exact ⟨_, _, arFaulty_smAL5 (H := H) (hg := hg) .., h⟩
    · cases h
  split at h
  · rename_i e
    subst e
    unfold arBitsK at h
    split at h
    · rename_i rn rw qat qab qak qay qal qah qbt qbb qbk qby qbl qbh qct qcb qck qcy qcl qch qdt qdb qdk qdy qdl qdh qmt qmb qmk qmy qml qmh ro nm ia ib ic id im
      cases hg : ((okNum qat qab qak qay && (okNum qbt qbb qbk qby && (okNum qct qcb qck qcy && (okNum qdt qdb qdk qdy && okNum qmt qmb qmk qmy))))) with
      | false => rw [hg] at h; cases h
      | true =>
        rw [hg] at h
        exact ⟨_, _, arBits_smAL5 (H := H) (hg := hg) .., h⟩
    · cases h
  exact smC_ok _ _ _ _ _ _ h
end
end Go.Proofs.YtpmlihmaodpmfaaGreatDoor
