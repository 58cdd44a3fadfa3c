/- The rows of some names in the tables (FindK), as closed calls. -/
import Derived.Test.YtpmlihmaodpmfaaGreatDoorArmDec0
import Derived.KernelRfl
namespace Go.Proofs.YtpmlihmaodpmfaaGreatDoor
open Go Go.Vai
noncomputable section
set_option maxRecDepth 100000
def find_c_j : Done := ⟨112, [.str [99, 46, 106]], [], .tup [.agg [.str [99, 46, 106], .str [49, 48, 49, 32, 115, 91, 49, 49, 93, 32, 115, 91, 52, 93, 32, 115, 91, 57, 58, 56, 93, 32, 115, 91, 49, 48, 93, 32, 115, 91, 54, 93, 32, 115, 91, 55, 93, 32, 115, 91, 51, 58, 49, 93, 32, 115, 91, 53, 93, 32, 48, 49], .int .i64 (.negSucc 2047), .int .i64 (.ofNat 2046), .int .i64 (.ofNat 2), .str [], .str [106, 97, 108, 32, 48, 32, 48, 32, 48, 32, 115]], .bool true],
[]⟩
theorem find_c_j_run : pack find_c_j.keep (runR E1 100000 (.call 112 find_c_j.args (gHeap 12 gl))) = some (find_c_j.v, find_c_j.os.map some) := by kernel_rfl
theorem find_c_j_ok : SmOk Tryz.prog gl (closedSm find_c_j) := closed_ok (E := E1) (n := 100000) e1_ok gl_ok (by kernel_rfl) (plain_list rfl) (by have := find_c_j_run; rw [runR_eq] at this; exact this) (by decide) (by kernel_rfl)
def find_c_bnez : Done := ⟨112, [.str [99, 46, 98, 110, 101, 122]], [], .tup [.agg [.str [99, 46, 98, 110, 101, 122], .str [49, 49, 49, 32, 115, 91, 56, 93, 32, 115, 91, 52, 58, 51, 93, 32, 98, 39, 32, 115, 91, 55, 58, 54, 93, 32, 115, 91, 50, 58, 49, 93, 32, 115, 91, 53, 93, 32, 48, 49], .int .i64 (.negSucc 255), .int .i64 (.ofNat 254), .int .i64 (.ofNat 2), .str [], .str [98, 110, 101, 32, 48, 32, 66, 32, 48, 32, 115]], .bool true],
[]⟩
theorem find_c_bnez_run : pack find_c_bnez.keep (runR E1 100000 (.call 112 find_c_bnez.args (gHeap 12 gl))) = some (find_c_bnez.v, find_c_bnez.os.map some) := by kernel_rfl
theorem find_c_bnez_ok : SmOk Tryz.prog gl (closedSm find_c_bnez) := closed_ok (E := E1) (n := 100000) e1_ok gl_ok (by kernel_rfl) (plain_list rfl) (by have := find_c_bnez_run; rw [runR_eq] at this; exact this) (by decide) (by kernel_rfl)
def find_jmp : Done := ⟨44, [.str [106, 109, 112]], [], .tup [.agg [.str [106, 109, 112], .int .i64 (.ofNat 0), .int .u16 (.ofNat 233), .int .i64 (.ofNat 11), .int .u8 (.ofNat 0), .bool false, .int .i64 (.negSucc 2147483647), .int .i64 (.ofNat 2147483647), .str [106]], .bool true],
[]⟩
theorem find_jmp_run : pack find_jmp.keep (runR E1 100000 (.call 44 find_jmp.args (gHeap 12 gl))) = some (find_jmp.v, find_jmp.os.map some) := by kernel_rfl
theorem find_jmp_ok : SmOk Tryz.prog gl (closedSm find_jmp) := closed_ok (E := E1) (n := 100000) e1_ok gl_ok (by kernel_rfl) (plain_list rfl) (by have := find_jmp_run; rw [runR_eq] at this; exact this) (by decide) (by kernel_rfl)
def find_call : Done := ⟨44, [.str [99, 97, 108, 108]], [], .tup [.agg [.str [99, 97, 108, 108], .int .i64 (.ofNat 0), .int .u16 (.ofNat 232), .int .i64 (.ofNat 11), .int .u8 (.ofNat 0), .bool false, .int .i64 (.negSucc 2147483647), .int .i64 (.ofNat 2147483647), .str [106]], .bool true],
[]⟩
theorem find_call_run : pack find_call.keep (runR E1 100000 (.call 44 find_call.args (gHeap 12 gl))) = some (find_call.v, find_call.os.map some) := by kernel_rfl
theorem find_call_ok : SmOk Tryz.prog gl (closedSm find_call) := closed_ok (E := E1) (n := 100000) e1_ok gl_ok (by kernel_rfl) (plain_list rfl) (by have := find_call_run; rw [runR_eq] at this; exact this) (by decide) (by kernel_rfl)
def find_jcc : Done := ⟨44, [.str [106, 99, 99]], [], .tup [.agg [.str [106, 99, 99], .int .i64 (.ofNat 0), .int .u16 (.ofNat 3968), .int .i64 (.ofNat 11), .int .u8 (.ofNat 0), .bool true, .int .i64 (.negSucc 2147483647), .int .i64 (.ofNat 2147483647), .str [99, 106]], .bool true],
[]⟩
theorem find_jcc_run : pack find_jcc.keep (runR E1 100000 (.call 44 find_jcc.args (gHeap 12 gl))) = some (find_jcc.v, find_jcc.os.map some) := by kernel_rfl
theorem find_jcc_ok : SmOk Tryz.prog gl (closedSm find_jcc) := closed_ok (E := E1) (n := 100000) e1_ok gl_ok (by kernel_rfl) (plain_list rfl) (by have := find_jcc_run; rw [runR_eq] at this; exact this) (by decide) (by kernel_rfl)
def findK : Sm := orSm (closedSm find_c_j) (orSm (closedSm find_c_bnez) (orSm (closedSm find_jmp) (orSm (closedSm find_call) (closedSm find_jcc))))
theorem findK_ok : SmOk Tryz.prog gl findK := (find_c_j_ok.or (find_c_bnez_ok.or (find_jmp_ok.or (find_call_ok.or find_jcc_ok))))
end
end Go.Proofs.YtpmlihmaodpmfaaGreatDoor
