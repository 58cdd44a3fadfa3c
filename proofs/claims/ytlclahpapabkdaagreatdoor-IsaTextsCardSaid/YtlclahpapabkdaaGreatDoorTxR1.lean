/- Encode of instructions by their names. -/
import Derived.Test.YtlclahpapabkdaaGreatDoorTxF
import Derived.Test.YtlclahpapabkdaaGreatDoorTxE
import Derived.KernelRfl
namespace Go.Proofs.YtlclahpapabkdaaGreatDoor
open Go Go.Vai
noncomputable section
set_option maxRecDepth 100000
variable (A B C D I : Int)
theorem er_1_add_rr : go9 1 [97, 100, 100, 46, 114, 114] A B C D I = ef0 A B C D I := by kernel_rfl
theorem er_1_xor_rr : go9 1 [120, 111, 114, 46, 114, 114] A B C D I = ef0 A B C D I := by kernel_rfl
theorem er_1_mov_ri : go9 1 [109, 111, 118, 46, 114, 105] A B C D I = ef1 9223372036854775807 A B C D I := by kernel_rfl
theorem er_1_or_ri : go9 1 [111, 114, 46, 114, 105] A B C D I = ef2 A B C D I := by kernel_rfl
theorem er_1_cmp_ri : go9 1 [99, 109, 112, 46, 114, 105] A B C D I = ef2 A B C D I := by kernel_rfl
theorem er_1_div : go9 1 [100, 105, 118] A B C D I = ef3 A B C D I := by kernel_rfl
theorem er_1_sar_rc : go9 1 [115, 97, 114, 46, 114, 99] A B C D I = ef3 A B C D I := by kernel_rfl
theorem er_1_nop : go9 1 [110, 111, 112] A B C D I = ef4 A B C D I := by kernel_rfl
theorem er_1_sar_ri : go9 1 [115, 97, 114, 46, 114, 105] A B C D I = ef5 A B C D I := by kernel_rfl
theorem er_1_call : go9 1 [99, 97, 108, 108] A B C D I = ef8 2147483647 A B C D I := by kernel_rfl
theorem er_1_jmp_r : go9 1 [106, 109, 112, 46, 114] A B C D I = ef9 A B C D I := by kernel_rfl
theorem er_2_movz : go9 2 [109, 111, 118, 122] A B C D I = ef11 3531603968 A B C D I := by kernel_rfl
theorem er_2_sub_i : go9 2 [115, 117, 98, 46, 105] A B C D I = ef12 3506438144 A B C D I := by kernel_rfl
theorem er_2_sub : go9 2 [115, 117, 98] A B C D I = ef13 31 63 3405774848 63 10 A B C D I := by kernel_rfl
theorem er_2_eor : go9 2 [101, 111, 114] A B C D I = ef13 31 63 3388997632 63 10 A B C D I := by kernel_rfl
theorem er_2_sbfm : go9 2 [115, 98, 102, 109] A B C D I = ef13 63 63 2470445056 63 10 A B C D I := by kernel_rfl
theorem er_2_and_i : go9 2 [97, 110, 100, 46, 105] A B C D I = ef14 2449473536 A B C D I := by kernel_rfl
theorem er_2_udiv : go9 2 [117, 100, 105, 118] A B C D I = ef15 2596276224 A B C D I := by kernel_rfl
theorem er_2_asrv : go9 2 [97, 115, 114, 118] A B C D I = ef15 2596284416 A B C D I := by kernel_rfl
theorem er_2_cbnz : go9 2 [99, 98, 110, 122] A B C D I = ef16 1048572 4 3036676096 A B C D I := by kernel_rfl
theorem er_2_strh : go9 2 [115, 116, 114, 104] A B C D I = ef17 8190 2 2030043136 A B C D I := by kernel_rfl
theorem er_2_ldr : go9 2 [108, 100, 114] A B C D I = ef17 32760 8 4181721088 A B C D I := by kernel_rfl
theorem er_2_b : go9 2 [98] A B C D I = ef19 A B C D I := by kernel_rfl
theorem er_2_blr : go9 2 [98, 108, 114] A B C D I = ef21 3594452992 A B C D I := by kernel_rfl
theorem er_2_nop : go9 2 [110, 111, 112] A B C D I = ef23 A B C D I := by kernel_rfl
theorem er_3_slt : go9 3 [115, 108, 116] A B C D I = ef24 8243 A B C D I := by kernel_rfl
theorem er_3_sra : go9 3 [115, 114, 97] A B C D I = ef24 1073762355 A B C D I := by kernel_rfl
theorem er_3_mulh : go9 3 [109, 117, 108, 104] A B C D I = ef24 33558579 A B C D I := by kernel_rfl
theorem er_3_divu : go9 3 [100, 105, 118, 117] A B C D I = ef24 33574963 A B C D I := by kernel_rfl
theorem er_3_subw : go9 3 [115, 117, 98, 119] A B C D I = ef24 1073741883 A B C D I := by kernel_rfl
theorem er_3_mulw : go9 3 [109, 117, 108, 119] A B C D I = ef24 33554491 A B C D I := by kernel_rfl
theorem er_3_remuw : go9 3 [114, 101, 109, 117, 119] A B C D I = ef24 33583163 A B C D I := by kernel_rfl
theorem er_3_xori : go9 3 [120, 111, 114, 105] A B C D I = ef25 16403 A B C D I := by kernel_rfl
theorem er_3_lb : go9 3 [108, 98] A B C D I = ef25 3 A B C D I := by kernel_rfl
theorem er_3_lbu : go9 3 [108, 98, 117] A B C D I = ef25 16387 A B C D I := by kernel_rfl
theorem er_3_slli : go9 3 [115, 108, 108, 105] A B C D I = ef26 63 4115 A B C D I := by kernel_rfl
theorem er_3_srliw : go9 3 [115, 114, 108, 105, 119] A B C D I = ef26 31 20507 A B C D I := by kernel_rfl
theorem er_3_sw : go9 3 [115, 119] A B C D I = ef27 2047 2047 1 8227 A B C D I := by kernel_rfl
theorem er_3_blt : go9 3 [98, 108, 116] A B C D I = ef27 4095 4094 2 16483 A B C D I := by kernel_rfl
theorem er_3_lui : go9 3 [108, 117, 105] A B C D I = ef28 524287 524287 1 55 A B C D I := by kernel_rfl
theorem er_3_ebreak : go9 3 [101, 98, 114, 101, 97, 107] A B C D I = ef29 1048691 A B C D I := by kernel_rfl
theorem er_3_c_sw : go9 3 [99, 46, 115, 119] A B C D I = ef33 A B C D I := by kernel_rfl
theorem er_3_c_addi : go9 3 [99, 46, 97, 100, 100, 105] A B C D I = ef36 A B C D I := by kernel_rfl
theorem er_3_c_lui : go9 3 [99, 46, 108, 117, 105] A B C D I = ef39 A B C D I := by kernel_rfl
theorem er_3_c_sub : go9 3 [99, 46, 115, 117, 98] A B C D I = ef42 280 0 A B C D I := by kernel_rfl
theorem er_3_c_subw : go9 3 [99, 46, 115, 117, 98, 119] A B C D I = ef42 312 0 A B C D I := by kernel_rfl
theorem er_3_c_bnez : go9 3 [99, 46, 98, 110, 101, 122] A B C D I = ef44 14 A B C D I := by kernel_rfl
theorem er_3_c_jr : go9 3 [99, 46, 106, 114] A B C D I = ef47 256 A B C D I := by kernel_rfl
theorem er_3_c_swsp : go9 3 [99, 46, 115, 119, 115, 112] A B C D I = ef49 252 4 96 2 15 3 A B C D I := by kernel_rfl
theorem er_1_movzb_rm_0 : go9 1 [109, 111, 118, 122, 98, 46, 114, 109] A B C (.ofNat 0) I = ef50 A B C I := by kernel_rfl
theorem er_1_add_rm_0 : go9 1 [97, 100, 100, 46, 114, 109] A B C (.ofNat 0) I = ef50 A B C I := by kernel_rfl
theorem er_1_xor_rm_0 : go9 1 [120, 111, 114, 46, 114, 109] A B C (.ofNat 0) I = ef50 A B C I := by kernel_rfl
theorem er_1_mov_rm_4 : go9 1 [109, 111, 118, 46, 114, 109] A B C (.ofNat 4) I = ef51 A B C I := by kernel_rfl
theorem er_1_movsl_rm_4 : go9 1 [109, 111, 118, 115, 108, 46, 114, 109] A B C (.ofNat 4) I = ef51 A B C I := by kernel_rfl
theorem er_1_movzb_rm_4 : go9 1 [109, 111, 118, 122, 98, 46, 114, 109] A B C (.ofNat 4) I = ef51 A B C I := by kernel_rfl
theorem er_1_lea_4 : go9 1 [108, 101, 97] A B C (.ofNat 4) I = ef51 A B C I := by kernel_rfl
theorem er_1_mov_mr_4 : go9 1 [109, 111, 118, 46, 109, 114] A B C (.ofNat 4) I = ef51 A B C I := by kernel_rfl
theorem er_1_movb_mr_4 : go9 1 [109, 111, 118, 98, 46, 109, 114] A B C (.ofNat 4) I = ef51 A B C I := by kernel_rfl
theorem er_1_add_rm_4 : go9 1 [97, 100, 100, 46, 114, 109] A B C (.ofNat 4) I = ef51 A B C I := by kernel_rfl
theorem er_1_or_rm_4 : go9 1 [111, 114, 46, 114, 109] A B C (.ofNat 4) I = ef51 A B C I := by kernel_rfl
theorem er_1_and_rm_4 : go9 1 [97, 110, 100, 46, 114, 109] A B C (.ofNat 4) I = ef51 A B C I := by kernel_rfl
theorem er_1_sub_rm_4 : go9 1 [115, 117, 98, 46, 114, 109] A B C (.ofNat 4) I = ef51 A B C I := by kernel_rfl
theorem er_1_xor_rm_4 : go9 1 [120, 111, 114, 46, 114, 109] A B C (.ofNat 4) I = ef51 A B C I := by kernel_rfl
theorem er_1_cmp_rm_4 : go9 1 [99, 109, 112, 46, 114, 109] A B C (.ofNat 4) I = ef51 A B C I := by kernel_rfl
theorem er_1_movl_rm_1 : go9 1 [109, 111, 118, 108, 46, 114, 109] A B C (.ofNat 1) I = ef53 A B C I := by kernel_rfl
theorem er_1_movl_mr_1 : go9 1 [109, 111, 118, 108, 46, 109, 114] A B C (.ofNat 1) I = ef53 A B C I := by kernel_rfl
theorem er_1_mov_rmE : go9e 1 [109, 111, 118, 46, 114, 109] A B C D I = efE A B C D I := by kernel_rfl
theorem er_1_leaE : go9e 1 [108, 101, 97] A B C D I = efE A B C D I := by kernel_rfl
theorem er_1_add_rmE : go9e 1 [97, 100, 100, 46, 114, 109] A B C D I = efE A B C D I := by kernel_rfl
theorem er_1_xor_rmE : go9e 1 [120, 111, 114, 46, 114, 109] A B C D I = efE A B C D I := by kernel_rfl
end
end Go.Proofs.YtlclahpapabkdaaGreatDoor
