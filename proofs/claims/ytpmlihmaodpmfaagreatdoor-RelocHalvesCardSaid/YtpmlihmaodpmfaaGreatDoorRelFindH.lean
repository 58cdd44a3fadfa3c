/- The rows of some names in the tables (FindH), as closed calls. -/
import Derived.Test.YtpmlihmaodpmfaaGreatDoorArmDec0
import Derived.KernelRfl
namespace Go.Proofs.YtpmlihmaodpmfaaGreatDoor
open Go Go.Vai
noncomputable section
set_option maxRecDepth 100000
def find_lui : Done := ⟨104, [.str [108, 117, 105]], [], .tup [.agg [.str [108, 117, 105], .int .i64 (.ofNat 6), .int .u32 (.ofNat 55)], .bool true],
[]⟩
theorem find_lui_run : pack find_lui.keep (runR E1 100000 (.call 104 find_lui.args (gHeap 12 gl))) = some (find_lui.v, find_lui.os.map some) := by kernel_rfl
theorem find_lui_ok : SmOk Tryz.prog gl (closedSm find_lui) := closed_ok (E := E1) (n := 100000) e1_ok gl_ok (by kernel_rfl) (plain_list rfl) (by have := find_lui_run; rw [runR_eq] at this; exact this) (by decide) (by kernel_rfl)
def find_addi : Done := ⟨104, [.str [97, 100, 100, 105]], [], .tup [.agg [.str [97, 100, 100, 105], .int .i64 (.ofNat 1), .int .u32 (.ofNat 19)], .bool true],
[]⟩
theorem find_addi_run : pack find_addi.keep (runR E1 100000 (.call 104 find_addi.args (gHeap 12 gl))) = some (find_addi.v, find_addi.os.map some) := by kernel_rfl
theorem find_addi_ok : SmOk Tryz.prog gl (closedSm find_addi) := closed_ok (E := E1) (n := 100000) e1_ok gl_ok (by kernel_rfl) (plain_list rfl) (by have := find_addi_run; rw [runR_eq] at this; exact this) (by decide) (by kernel_rfl)
def find_adrp : Done := ⟨50, [.str [97, 100, 114, 112]], [], .tup [.agg [.str [97, 100, 114, 112], .int .u32 (.ofNat 2415919104), .int .i8 (.ofNat 0), .int .i8 (.ofNat 5), .int .i8 (.ofNat 1), .int .i8 (.ofNat 1), .int .i32 (.ofNat 0), .int .i32 (.ofNat 31), .int .i8 (.ofNat 0), .int .i8 (.ofNat 0), .int .i8 (.ofNat 0), .int .i8 (.ofNat 0), .int .i32 (.ofNat 0), .int .i32 (.ofNat 0), .int .i8 (.ofNat 0), .int .i8 (.ofNat 0), .int .i8 (.ofNat 0), .int .i8 (.ofNat 0), .int .i32 (.ofNat 0), .int .i32 (.ofNat 0), .int .i8 (.ofNat 0), .int .i8 (.ofNat 0), .int .i8 (.ofNat 0), .int .i8 (.ofNat 0), .int .i32 (.ofNat 0), .int .i32 (.ofNat 0), .int .i8 (.ofNat 0), .int .i8 (.ofNat 0), .int .i8 (.ofNat 2), .int .i8 (.ofNat 1), .int .i32 (.negSucc 1048575), .int .i32 (.ofNat 1048575), .str [65, 106]], .bool true],
[]⟩
theorem find_adrp_run : pack find_adrp.keep (runR E1 100000 (.call 50 find_adrp.args (gHeap 12 gl))) = some (find_adrp.v, find_adrp.os.map some) := by kernel_rfl
theorem find_adrp_ok : SmOk Tryz.prog gl (closedSm find_adrp) := closed_ok (E := E1) (n := 100000) e1_ok gl_ok (by kernel_rfl) (plain_list rfl) (by have := find_adrp_run; rw [runR_eq] at this; exact this) (by decide) (by kernel_rfl)
def find_add_i : Done := ⟨50, [.str [97, 100, 100, 46, 105]], [], .tup [.agg [.str [97, 100, 100, 46, 105], .int .u32 (.ofNat 2432696320), .int .i8 (.ofNat 0), .int .i8 (.ofNat 5), .int .i8 (.ofNat 1), .int .i8 (.ofNat 1), .int .i32 (.ofNat 0), .int .i32 (.ofNat 31), .int .i8 (.ofNat 5), .int .i8 (.ofNat 5), .int .i8 (.ofNat 1), .int .i8 (.ofNat 1), .int .i32 (.ofNat 0), .int .i32 (.ofNat 31), .int .i8 (.ofNat 0), .int .i8 (.ofNat 0), .int .i8 (.ofNat 0), .int .i8 (.ofNat 0), .int .i32 (.ofNat 0), .int .i32 (.ofNat 0), .int .i8 (.ofNat 22), .int .i8 (.ofNat 1), .int .i8 (.ofNat 1), .int .i8 (.ofNat 1), .int .i32 (.ofNat 0), .int .i32 (.ofNat 1), .int .i8 (.ofNat 10), .int .i8 (.ofNat 12), .int .i8 (.ofNat 1), .int .i8 (.ofNat 1), .int .i32 (.ofNat 0), .int .i32 (.ofNat 4095), .str [65, 66, 105, 115]], .bool true],
[]⟩
theorem find_add_i_run : pack find_add_i.keep (runR E1 100000 (.call 50 find_add_i.args (gHeap 12 gl))) = some (find_add_i.v, find_add_i.os.map some) := by kernel_rfl
theorem find_add_i_ok : SmOk Tryz.prog gl (closedSm find_add_i) := closed_ok (E := E1) (n := 100000) e1_ok gl_ok (by kernel_rfl) (plain_list rfl) (by have := find_add_i_run; rw [runR_eq] at this; exact this) (by decide) (by kernel_rfl)
def findH : Sm := orSm (closedSm find_lui) (orSm (closedSm find_addi) (orSm (closedSm find_adrp) (closedSm find_add_i)))
theorem findH_ok : SmOk Tryz.prog gl findH := (find_lui_ok.or (find_addi_ok.or (find_adrp_ok.or find_add_i_ok)))
end
end Go.Proofs.YtpmlihmaodpmfaaGreatDoor
