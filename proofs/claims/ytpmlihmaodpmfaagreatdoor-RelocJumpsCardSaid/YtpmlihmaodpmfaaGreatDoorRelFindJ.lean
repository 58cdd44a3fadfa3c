/- The rows of some names in the tables (FindJ), as closed calls. -/
import Derived.Test.YtpmlihmaodpmfaaGreatDoorArmDec0
import Derived.KernelRfl
namespace Go.Proofs.YtpmlihmaodpmfaaGreatDoor
open Go Go.Vai
noncomputable section
set_option maxRecDepth 100000
def find_beq : Done := ⟨104, [.str [98, 101, 113]], [], .tup [.agg [.str [98, 101, 113], .int .i64 (.ofNat 5), .int .u32 (.ofNat 99)], .bool true],
[]⟩
theorem find_beq_run : pack find_beq.keep (runR E1 100000 (.call 104 find_beq.args (gHeap 12 gl))) = some (find_beq.v, find_beq.os.map some) := by kernel_rfl
theorem find_beq_ok : SmOk Tryz.prog gl (closedSm find_beq) := closed_ok (E := E1) (n := 100000) e1_ok gl_ok (by kernel_rfl) (plain_list rfl) (by have := find_beq_run; rw [runR_eq] at this; exact this) (by decide) (by kernel_rfl)
def find_jal : Done := ⟨104, [.str [106, 97, 108]], [], .tup [.agg [.str [106, 97, 108], .int .i64 (.ofNat 7), .int .u32 (.ofNat 111)], .bool true],
[]⟩
theorem find_jal_run : pack find_jal.keep (runR E1 100000 (.call 104 find_jal.args (gHeap 12 gl))) = some (find_jal.v, find_jal.os.map some) := by kernel_rfl
theorem find_jal_ok : SmOk Tryz.prog gl (closedSm find_jal) := closed_ok (E := E1) (n := 100000) e1_ok gl_ok (by kernel_rfl) (plain_list rfl) (by have := find_jal_run; rw [runR_eq] at this; exact this) (by decide) (by kernel_rfl)
def find_b : Done := ⟨50, [.str [98]], [], .tup [.agg [.str [98], .int .u32 (.ofNat 335544320), .int .i8 (.ofNat 0), .int .i8 (.ofNat 0), .int .i8 (.ofNat 0), .int .i8 (.ofNat 0), .int .i32 (.ofNat 0), .int .i32 (.ofNat 0), .int .i8 (.ofNat 0), .int .i8 (.ofNat 0), .int .i8 (.ofNat 0), .int .i8 (.ofNat 0), .int .i32 (.ofNat 0), .int .i32 (.ofNat 0), .int .i8 (.ofNat 0), .int .i8 (.ofNat 0), .int .i8 (.ofNat 0), .int .i8 (.ofNat 0), .int .i32 (.ofNat 0), .int .i32 (.ofNat 0), .int .i8 (.ofNat 0), .int .i8 (.ofNat 0), .int .i8 (.ofNat 0), .int .i8 (.ofNat 0), .int .i32 (.ofNat 0), .int .i32 (.ofNat 0), .int .i8 (.ofNat 0), .int .i8 (.ofNat 26), .int .i8 (.ofNat 1), .int .i8 (.ofNat 4), .int .i32 (.negSucc 134217727), .int .i32 (.ofNat 134217724), .str [106]], .bool true],
[]⟩
theorem find_b_run : pack find_b.keep (runR E1 100000 (.call 50 find_b.args (gHeap 12 gl))) = some (find_b.v, find_b.os.map some) := by kernel_rfl
theorem find_b_ok : SmOk Tryz.prog gl (closedSm find_b) := closed_ok (E := E1) (n := 100000) e1_ok gl_ok (by kernel_rfl) (plain_list rfl) (by have := find_b_run; rw [runR_eq] at this; exact this) (by decide) (by kernel_rfl)
def find_bl : Done := ⟨50, [.str [98, 108]], [], .tup [.agg [.str [98, 108], .int .u32 (.ofNat 2483027968), .int .i8 (.ofNat 0), .int .i8 (.ofNat 0), .int .i8 (.ofNat 0), .int .i8 (.ofNat 0), .int .i32 (.ofNat 0), .int .i32 (.ofNat 0), .int .i8 (.ofNat 0), .int .i8 (.ofNat 0), .int .i8 (.ofNat 0), .int .i8 (.ofNat 0), .int .i32 (.ofNat 0), .int .i32 (.ofNat 0), .int .i8 (.ofNat 0), .int .i8 (.ofNat 0), .int .i8 (.ofNat 0), .int .i8 (.ofNat 0), .int .i32 (.ofNat 0), .int .i32 (.ofNat 0), .int .i8 (.ofNat 0), .int .i8 (.ofNat 0), .int .i8 (.ofNat 0), .int .i8 (.ofNat 0), .int .i32 (.ofNat 0), .int .i32 (.ofNat 0), .int .i8 (.ofNat 0), .int .i8 (.ofNat 26), .int .i8 (.ofNat 1), .int .i8 (.ofNat 4), .int .i32 (.negSucc 134217727), .int .i32 (.ofNat 134217724), .str [106]], .bool true],
[]⟩
theorem find_bl_run : pack find_bl.keep (runR E1 100000 (.call 50 find_bl.args (gHeap 12 gl))) = some (find_bl.v, find_bl.os.map some) := by kernel_rfl
theorem find_bl_ok : SmOk Tryz.prog gl (closedSm find_bl) := closed_ok (E := E1) (n := 100000) e1_ok gl_ok (by kernel_rfl) (plain_list rfl) (by have := find_bl_run; rw [runR_eq] at this; exact this) (by decide) (by kernel_rfl)
def find_b_c : Done := ⟨50, [.str [98, 46, 99]], [], .tup [.agg [.str [98, 46, 99], .int .u32 (.ofNat 1409286144), .int .i8 (.ofNat 0), .int .i8 (.ofNat 0), .int .i8 (.ofNat 0), .int .i8 (.ofNat 0), .int .i32 (.ofNat 0), .int .i32 (.ofNat 0), .int .i8 (.ofNat 0), .int .i8 (.ofNat 0), .int .i8 (.ofNat 0), .int .i8 (.ofNat 0), .int .i32 (.ofNat 0), .int .i32 (.ofNat 0), .int .i8 (.ofNat 0), .int .i8 (.ofNat 0), .int .i8 (.ofNat 0), .int .i8 (.ofNat 0), .int .i32 (.ofNat 0), .int .i32 (.ofNat 0), .int .i8 (.ofNat 0), .int .i8 (.ofNat 4), .int .i8 (.ofNat 1), .int .i8 (.ofNat 1), .int .i32 (.ofNat 0), .int .i32 (.ofNat 13), .int .i8 (.ofNat 5), .int .i8 (.ofNat 19), .int .i8 (.ofNat 1), .int .i8 (.ofNat 4), .int .i32 (.negSucc 1048575), .int .i32 (.ofNat 1048572), .str [99, 106]], .bool true],
[]⟩
theorem find_b_c_run : pack find_b_c.keep (runR E1 100000 (.call 50 find_b_c.args (gHeap 12 gl))) = some (find_b_c.v, find_b_c.os.map some) := by kernel_rfl
theorem find_b_c_ok : SmOk Tryz.prog gl (closedSm find_b_c) := closed_ok (E := E1) (n := 100000) e1_ok gl_ok (by kernel_rfl) (plain_list rfl) (by have := find_b_c_run; rw [runR_eq] at this; exact this) (by decide) (by kernel_rfl)
def find_cbz : Done := ⟨50, [.str [99, 98, 122]], [], .tup [.agg [.str [99, 98, 122], .int .u32 (.ofNat 3019898880), .int .i8 (.ofNat 0), .int .i8 (.ofNat 5), .int .i8 (.ofNat 1), .int .i8 (.ofNat 1), .int .i32 (.ofNat 0), .int .i32 (.ofNat 31), .int .i8 (.ofNat 0), .int .i8 (.ofNat 0), .int .i8 (.ofNat 0), .int .i8 (.ofNat 0), .int .i32 (.ofNat 0), .int .i32 (.ofNat 0), .int .i8 (.ofNat 0), .int .i8 (.ofNat 0), .int .i8 (.ofNat 0), .int .i8 (.ofNat 0), .int .i32 (.ofNat 0), .int .i32 (.ofNat 0), .int .i8 (.ofNat 0), .int .i8 (.ofNat 0), .int .i8 (.ofNat 0), .int .i8 (.ofNat 0), .int .i32 (.ofNat 0), .int .i32 (.ofNat 0), .int .i8 (.ofNat 5), .int .i8 (.ofNat 19), .int .i8 (.ofNat 1), .int .i8 (.ofNat 4), .int .i32 (.negSucc 1048575), .int .i32 (.ofNat 1048572), .str [65, 106]], .bool true],
[]⟩
theorem find_cbz_run : pack find_cbz.keep (runR E1 100000 (.call 50 find_cbz.args (gHeap 12 gl))) = some (find_cbz.v, find_cbz.os.map some) := by kernel_rfl
theorem find_cbz_ok : SmOk Tryz.prog gl (closedSm find_cbz) := closed_ok (E := E1) (n := 100000) e1_ok gl_ok (by kernel_rfl) (plain_list rfl) (by have := find_cbz_run; rw [runR_eq] at this; exact this) (by decide) (by kernel_rfl)
def findJ : Sm := orSm (closedSm find_beq) (orSm (closedSm find_jal) (orSm (closedSm find_b) (orSm (closedSm find_bl) (orSm (closedSm find_b_c) (closedSm find_cbz)))))
theorem findJ_ok : SmOk Tryz.prog gl findJ := (find_beq_ok.or (find_jal_ok.or (find_b_ok.or (find_bl_ok.or (find_b_c_ok.or find_cbz_ok)))))
end
end Go.Proofs.YtpmlihmaodpmfaaGreatDoor
