/- Encode of instructions by their names. -/
import Derived.Test.YtlclahpapabkdaaGreatDoorTxF
import Derived.Test.YtlclahpapabkdaaGreatDoorTxE
import Derived.KernelRfl
namespace Go.Proofs.YtlclahpapabkdaaGreatDoor
open Go Go.Vai
noncomputable section
set_option maxRecDepth 100000
variable (A B C D I : Int)
theorem er_1_mov_rr : go9 1 [109, 111, 118, 46, 114, 114] A B C D I = ef0 A B C D I := by kernel_rfl
theorem er_1_sub_rr : go9 1 [115, 117, 98, 46, 114, 114] A B C D I = ef0 A B C D I := by kernel_rfl
theorem er_1_imul_rr : go9 1 [105, 109, 117, 108, 46, 114, 114] A B C D I = ef0 A B C D I := by kernel_rfl
theorem er_1_add_ri : go9 1 [97, 100, 100, 46, 114, 105] A B C D I = ef2 A B C D I := by kernel_rfl
theorem er_1_xor_ri : go9 1 [120, 111, 114, 46, 114, 105] A B C D I = ef2 A B C D I := by kernel_rfl
theorem er_1_mul : go9 1 [109, 117, 108] A B C D I = ef3 A B C D I := by kernel_rfl
theorem er_1_shr_rc : go9 1 [115, 104, 114, 46, 114, 99] A B C D I = ef3 A B C D I := by kernel_rfl
theorem er_1_syscall : go9 1 [115, 121, 115, 99, 97, 108, 108] A B C D I = ef4 A B C D I := by kernel_rfl
theorem er_1_shr_ri : go9 1 [115, 104, 114, 46, 114, 105] A B C D I = ef5 A B C D I := by kernel_rfl
theorem er_1_pop : go9 1 [112, 111, 112] A B C D I = ef7 A B C D I := by kernel_rfl
theorem er_1_call_r : go9 1 [99, 97, 108, 108, 46, 114] A B C D I = ef9 A B C D I := by kernel_rfl
theorem er_2_movn : go9 2 [109, 111, 118, 110] A B C D I = ef11 2457862144 A B C D I := by kernel_rfl
theorem er_2_adds_i : go9 2 [97, 100, 100, 115, 46, 105] A B C D I = ef12 2969567232 A B C D I := by kernel_rfl
theorem er_2_adds : go9 2 [97, 100, 100, 115] A B C D I = ef13 31 63 2868903936 63 10 A B C D I := by kernel_rfl
theorem er_2_orr : go9 2 [111, 114, 114] A B C D I = ef13 31 63 2852126720 63 10 A B C D I := by kernel_rfl
theorem er_2_msub : go9 2 [109, 115, 117, 98] A B C D I = ef13 31 31 2600501248 31 10 A B C D I := by kernel_rfl
theorem er_2_csinc : go9 2 [99, 115, 105, 110, 99] A B C D I = ef13 31 13 2592080896 15 12 A B C D I := by kernel_rfl
theorem er_2_ands_i : go9 2 [97, 110, 100, 115, 46, 105] A B C D I = ef14 4060086272 A B C D I := by kernel_rfl
theorem er_2_lsrv : go9 2 [108, 115, 114, 118] A B C D I = ef15 2596283392 A B C D I := by kernel_rfl
theorem er_2_cbz : go9 2 [99, 98, 122] A B C D I = ef16 1048572 4 3019898880 A B C D I := by kernel_rfl
theorem er_2_ldrh : go9 2 [108, 100, 114, 104] A B C D I = ef17 8190 2 2034237440 A B C D I := by kernel_rfl
theorem er_2_ldrsw : go9 2 [108, 100, 114, 115, 119] A B C D I = ef17 16380 4 3112173568 A B C D I := by kernel_rfl
theorem er_2_stp : go9 2 [115, 116, 112] A B C D I = ef18 2835349504 A B C D I := by kernel_rfl
theorem er_2_br : go9 2 [98, 114] A B C D I = ef21 3592355840 A B C D I := by kernel_rfl
theorem er_2_brk : go9 2 [98, 114, 107] A B C D I = ef22 A B C D I := by kernel_rfl
theorem er_3_sll : go9 3 [115, 108, 108] A B C D I = ef24 4147 A B C D I := by kernel_rfl
theorem er_3_srl : go9 3 [115, 114, 108] A B C D I = ef24 20531 A B C D I := by kernel_rfl
theorem er_3_mul : go9 3 [109, 117, 108] A B C D I = ef24 33554483 A B C D I := by kernel_rfl
theorem er_3_div : go9 3 [100, 105, 118] A B C D I = ef24 33570867 A B C D I := by kernel_rfl
theorem er_3_addw : go9 3 [97, 100, 100, 119] A B C D I = ef24 59 A B C D I := by kernel_rfl
theorem er_3_sraw : go9 3 [115, 114, 97, 119] A B C D I = ef24 1073762363 A B C D I := by kernel_rfl
theorem er_3_remw : go9 3 [114, 101, 109, 119] A B C D I = ef24 33579067 A B C D I := by kernel_rfl
theorem er_3_sltiu : go9 3 [115, 108, 116, 105, 117] A B C D I = ef25 12307 A B C D I := by kernel_rfl
theorem er_3_addiw : go9 3 [97, 100, 100, 105, 119] A B C D I = ef25 27 A B C D I := by kernel_rfl
theorem er_3_ld : go9 3 [108, 100] A B C D I = ef25 12291 A B C D I := by kernel_rfl
theorem er_3_jalr : go9 3 [106, 97, 108, 114] A B C D I = ef25 103 A B C D I := by kernel_rfl
theorem er_3_slliw : go9 3 [115, 108, 108, 105, 119] A B C D I = ef26 31 4123 A B C D I := by kernel_rfl
theorem er_3_sh : go9 3 [115, 104] A B C D I = ef27 2047 2047 1 4131 A B C D I := by kernel_rfl
theorem er_3_bne : go9 3 [98, 110, 101] A B C D I = ef27 4095 4094 2 4195 A B C D I := by kernel_rfl
theorem er_3_bgeu : go9 3 [98, 103, 101, 117] A B C D I = ef27 4095 4094 2 28771 A B C D I := by kernel_rfl
theorem er_3_ecall : go9 3 [101, 99, 97, 108, 108] A B C D I = ef29 115 A B C D I := by kernel_rfl
theorem er_3_c_ld : go9 3 [99, 46, 108, 100] A B C D I = ef32 A B C D I := by kernel_rfl
theorem er_3_c_ebreak : go9 3 [99, 46, 101, 98, 114, 101, 97, 107] A B C D I = ef35 A B C D I := by kernel_rfl
theorem er_3_c_addi16sp : go9 3 [99, 46, 97, 100, 100, 105, 49, 54, 115, 112] A B C D I = ef38 A B C D I := by kernel_rfl
theorem er_3_c_andi : go9 3 [99, 46, 97, 110, 100, 105] A B C D I = ef41 A B C D I := by kernel_rfl
theorem er_3_c_and : go9 3 [99, 46, 97, 110, 100] A B C D I = ef42 280 3 A B C D I := by kernel_rfl
theorem er_3_c_beqz : go9 3 [99, 46, 98, 101, 113, 122] A B C D I = ef44 12 A B C D I := by kernel_rfl
theorem er_3_c_ldsp : go9 3 [99, 46, 108, 100, 115, 112] A B C D I = ef46 504 8 6 2 3 3 7 A B C D I := by kernel_rfl
theorem er_3_c_add : go9 3 [99, 46, 97, 100, 100] A B C D I = ef48 288 A B C D I := by kernel_rfl
theorem er_1_movsl_rm_0 : go9 1 [109, 111, 118, 115, 108, 46, 114, 109] A B C (.ofNat 0) I = ef50 A B C I := by kernel_rfl
theorem er_1_movb_mr_0 : go9 1 [109, 111, 118, 98, 46, 109, 114] A B C (.ofNat 0) I = ef50 A B C I := by kernel_rfl
theorem er_1_sub_rm_0 : go9 1 [115, 117, 98, 46, 114, 109] A B C (.ofNat 0) I = ef50 A B C I := by kernel_rfl
theorem er_1_mov_rm_2 : go9 1 [109, 111, 118, 46, 114, 109] A B C (.ofNat 2) I = ef51 A B C I := by kernel_rfl
theorem er_1_movsl_rm_2 : go9 1 [109, 111, 118, 115, 108, 46, 114, 109] A B C (.ofNat 2) I = ef51 A B C I := by kernel_rfl
theorem er_1_movzb_rm_2 : go9 1 [109, 111, 118, 122, 98, 46, 114, 109] A B C (.ofNat 2) I = ef51 A B C I := by kernel_rfl
theorem er_1_lea_2 : go9 1 [108, 101, 97] A B C (.ofNat 2) I = ef51 A B C I := by kernel_rfl
theorem er_1_mov_mr_2 : go9 1 [109, 111, 118, 46, 109, 114] A B C (.ofNat 2) I = ef51 A B C I := by kernel_rfl
theorem er_1_movb_mr_2 : go9 1 [109, 111, 118, 98, 46, 109, 114] A B C (.ofNat 2) I = ef51 A B C I := by kernel_rfl
theorem er_1_add_rm_2 : go9 1 [97, 100, 100, 46, 114, 109] A B C (.ofNat 2) I = ef51 A B C I := by kernel_rfl
theorem er_1_or_rm_2 : go9 1 [111, 114, 46, 114, 109] A B C (.ofNat 2) I = ef51 A B C I := by kernel_rfl
theorem er_1_and_rm_2 : go9 1 [97, 110, 100, 46, 114, 109] A B C (.ofNat 2) I = ef51 A B C I := by kernel_rfl
theorem er_1_sub_rm_2 : go9 1 [115, 117, 98, 46, 114, 109] A B C (.ofNat 2) I = ef51 A B C I := by kernel_rfl
theorem er_1_xor_rm_2 : go9 1 [120, 111, 114, 46, 114, 109] A B C (.ofNat 2) I = ef51 A B C I := by kernel_rfl
theorem er_1_cmp_rm_2 : go9 1 [99, 109, 112, 46, 114, 109] A B C (.ofNat 2) I = ef51 A B C I := by kernel_rfl
theorem er_1_movl_mr_0 : go9 1 [109, 111, 118, 108, 46, 109, 114] A B C (.ofNat 0) I = ef52 A B C I := by kernel_rfl
theorem er_1_movl_rm_8 : go9 1 [109, 111, 118, 108, 46, 114, 109] A B C (.ofNat 8) I = ef53 A B C I := by kernel_rfl
theorem er_1_movl_mr_8 : go9 1 [109, 111, 118, 108, 46, 109, 114] A B C (.ofNat 8) I = ef53 A B C I := by kernel_rfl
theorem er_1_movzb_rmE : go9e 1 [109, 111, 118, 122, 98, 46, 114, 109] A B C D I = efE A B C D I := by kernel_rfl
theorem er_1_movb_mrE : go9e 1 [109, 111, 118, 98, 46, 109, 114] A B C D I = efE A B C D I := by kernel_rfl
theorem er_1_sub_rmE : go9e 1 [115, 117, 98, 46, 114, 109] A B C D I = efE A B C D I := by kernel_rfl
end
end Go.Proofs.YtlclahpapabkdaaGreatDoor
