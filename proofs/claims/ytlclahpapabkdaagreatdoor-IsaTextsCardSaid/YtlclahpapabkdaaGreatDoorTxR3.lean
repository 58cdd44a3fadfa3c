/- Encode of instructions by their names. -/
import Derived.Test.YtlclahpapabkdaaGreatDoorTxF
import Derived.Test.YtlclahpapabkdaaGreatDoorTxE
import Derived.KernelRfl
namespace Go.Proofs.YtlclahpapabkdaaGreatDoor
open Go Go.Vai
noncomputable section
set_option maxRecDepth 100000
variable (A B C D I : Int)
theorem er_1_and_rr : go9 1 [97, 110, 100, 46, 114, 114] A B C D I = ef0 A B C D I := by kernel_rfl
theorem er_1_test_rr : go9 1 [116, 101, 115, 116, 46, 114, 114] A B C D I = ef0 A B C D I := by kernel_rfl
theorem er_1_mov_fs : go9 1 [109, 111, 118, 46, 102, 115] A B C D I = ef1 2147483647 A B C D I := by kernel_rfl
theorem er_1_sub_ri : go9 1 [115, 117, 98, 46, 114, 105] A B C D I = ef2 A B C D I := by kernel_rfl
theorem er_1_neg : go9 1 [110, 101, 103] A B C D I = ef3 A B C D I := by kernel_rfl
theorem er_1_shl_rc : go9 1 [115, 104, 108, 46, 114, 99] A B C D I = ef3 A B C D I := by kernel_rfl
theorem er_1_ret : go9 1 [114, 101, 116] A B C D I = ef4 A B C D I := by kernel_rfl
theorem er_1_shl_ri : go9 1 [115, 104, 108, 46, 114, 105] A B C D I = ef5 A B C D I := by kernel_rfl
theorem er_1_push : go9 1 [112, 117, 115, 104] A B C D I = ef7 A B C D I := by kernel_rfl
theorem er_1_jmp_s : go9 1 [106, 109, 112, 46, 115] A B C D I = ef8 127 A B C D I := by kernel_rfl
theorem er_1_jcc_s : go9 1 [106, 99, 99, 46, 115] A B C D I = ef10 127 A B C D I := by kernel_rfl
theorem er_2_add_i : go9 2 [97, 100, 100, 46, 105] A B C D I = ef12 2432696320 A B C D I := by kernel_rfl
theorem er_2_add : go9 2 [97, 100, 100] A B C D I = ef13 31 63 2332033024 63 10 A B C D I := by kernel_rfl
theorem er_2_and : go9 2 [97, 110, 100] A B C D I = ef13 31 63 2315255808 63 10 A B C D I := by kernel_rfl
theorem er_2_madd : go9 2 [109, 97, 100, 100] A B C D I = ef13 31 31 2600468480 31 10 A B C D I := by kernel_rfl
theorem er_2_csel : go9 2 [99, 115, 101, 108] A B C D I = ef13 31 13 2592079872 15 12 A B C D I := by kernel_rfl
theorem er_2_eor_i : go9 2 [101, 111, 114, 46, 105] A B C D I = ef14 3523215360 A B C D I := by kernel_rfl
theorem er_2_lslv : go9 2 [108, 115, 108, 118] A B C D I = ef15 2596282368 A B C D I := by kernel_rfl
theorem er_2_adrp : go9 2 [97, 100, 114, 112] A B C D I = ef16 1048575 1 2415919104 A B C D I := by kernel_rfl
theorem er_2_strb : go9 2 [115, 116, 114, 98] A B C D I = ef17 4095 1 956301312 A B C D I := by kernel_rfl
theorem er_2_str_w : go9 2 [115, 116, 114, 46, 119] A B C D I = ef17 16380 4 3103784960 A B C D I := by kernel_rfl
theorem er_2_ldp : go9 2 [108, 100, 112] A B C D I = ef18 2839543808 A B C D I := by kernel_rfl
theorem er_2_b_c : go9 2 [98, 46, 99] A B C D I = ef20 A B C D I := by kernel_rfl
theorem er_2_svc : go9 2 [115, 118, 99] A B C D I = ef22 A B C D I := by kernel_rfl
theorem er_3_sub : go9 3 [115, 117, 98] A B C D I = ef24 1073741875 A B C D I := by kernel_rfl
theorem er_3_xor : go9 3 [120, 111, 114] A B C D I = ef24 16435 A B C D I := by kernel_rfl
theorem er_3_and : go9 3 [97, 110, 100] A B C D I = ef24 28723 A B C D I := by kernel_rfl
theorem er_3_mulhu : go9 3 [109, 117, 108, 104, 117] A B C D I = ef24 33566771 A B C D I := by kernel_rfl
theorem er_3_remu : go9 3 [114, 101, 109, 117] A B C D I = ef24 33583155 A B C D I := by kernel_rfl
theorem er_3_srlw : go9 3 [115, 114, 108, 119] A B C D I = ef24 20539 A B C D I := by kernel_rfl
theorem er_3_divuw : go9 3 [100, 105, 118, 117, 119] A B C D I = ef24 33574971 A B C D I := by kernel_rfl
theorem er_3_slti : go9 3 [115, 108, 116, 105] A B C D I = ef25 8211 A B C D I := by kernel_rfl
theorem er_3_andi : go9 3 [97, 110, 100, 105] A B C D I = ef25 28691 A B C D I := by kernel_rfl
theorem er_3_lw : go9 3 [108, 119] A B C D I = ef25 8195 A B C D I := by kernel_rfl
theorem er_3_lwu : go9 3 [108, 119, 117] A B C D I = ef25 24579 A B C D I := by kernel_rfl
theorem er_3_srai : go9 3 [115, 114, 97, 105] A B C D I = ef26 63 1073762323 A B C D I := by kernel_rfl
theorem er_3_sb : go9 3 [115, 98] A B C D I = ef27 2047 2047 1 35 A B C D I := by kernel_rfl
theorem er_3_beq : go9 3 [98, 101, 113] A B C D I = ef27 4095 4094 2 99 A B C D I := by kernel_rfl
theorem er_3_bltu : go9 3 [98, 108, 116, 117] A B C D I = ef27 4095 4094 2 24675 A B C D I := by kernel_rfl
theorem er_3_jal : go9 3 [106, 97, 108] A B C D I = ef28 1048575 1048574 2 111 A B C D I := by kernel_rfl
theorem er_3_c_lw : go9 3 [99, 46, 108, 119] A B C D I = ef31 A B C D I := by kernel_rfl
theorem er_3_c_nop : go9 3 [99, 46, 110, 111, 112] A B C D I = ef35 A B C D I := by kernel_rfl
theorem er_3_c_li : go9 3 [99, 46, 108, 105] A B C D I = ef37 4 A B C D I := by kernel_rfl
theorem er_3_c_srai : go9 3 [99, 46, 115, 114, 97, 105] A B C D I = ef40 1 A B C D I := by kernel_rfl
theorem er_3_c_or : go9 3 [99, 46, 111, 114] A B C D I = ef42 280 2 A B C D I := by kernel_rfl
theorem er_3_c_j : go9 3 [99, 46, 106] A B C D I = ef43 A B C D I := by kernel_rfl
theorem er_3_c_lwsp : go9 3 [99, 46, 108, 119, 115, 112] A B C D I = ef46 252 4 4 3 2 7 3 A B C D I := by kernel_rfl
theorem er_3_c_mv : go9 3 [99, 46, 109, 118] A B C D I = ef48 256 A B C D I := by kernel_rfl
theorem er_1_mov_rm_0 : go9 1 [109, 111, 118, 46, 114, 109] A B C (.ofNat 0) I = ef50 A B C I := by kernel_rfl
theorem er_1_mov_mr_0 : go9 1 [109, 111, 118, 46, 109, 114] A B C (.ofNat 0) I = ef50 A B C I := by kernel_rfl
theorem er_1_and_rm_0 : go9 1 [97, 110, 100, 46, 114, 109] A B C (.ofNat 0) I = ef50 A B C I := by kernel_rfl
theorem er_1_mov_rm_1 : go9 1 [109, 111, 118, 46, 114, 109] A B C (.ofNat 1) I = ef51 A B C I := by kernel_rfl
theorem er_1_movsl_rm_1 : go9 1 [109, 111, 118, 115, 108, 46, 114, 109] A B C (.ofNat 1) I = ef51 A B C I := by kernel_rfl
theorem er_1_movzb_rm_1 : go9 1 [109, 111, 118, 122, 98, 46, 114, 109] A B C (.ofNat 1) I = ef51 A B C I := by kernel_rfl
theorem er_1_lea_1 : go9 1 [108, 101, 97] A B C (.ofNat 1) I = ef51 A B C I := by kernel_rfl
theorem er_1_mov_mr_1 : go9 1 [109, 111, 118, 46, 109, 114] A B C (.ofNat 1) I = ef51 A B C I := by kernel_rfl
theorem er_1_movb_mr_1 : go9 1 [109, 111, 118, 98, 46, 109, 114] A B C (.ofNat 1) I = ef51 A B C I := by kernel_rfl
theorem er_1_add_rm_1 : go9 1 [97, 100, 100, 46, 114, 109] A B C (.ofNat 1) I = ef51 A B C I := by kernel_rfl
theorem er_1_or_rm_1 : go9 1 [111, 114, 46, 114, 109] A B C (.ofNat 1) I = ef51 A B C I := by kernel_rfl
theorem er_1_and_rm_1 : go9 1 [97, 110, 100, 46, 114, 109] A B C (.ofNat 1) I = ef51 A B C I := by kernel_rfl
theorem er_1_sub_rm_1 : go9 1 [115, 117, 98, 46, 114, 109] A B C (.ofNat 1) I = ef51 A B C I := by kernel_rfl
theorem er_1_xor_rm_1 : go9 1 [120, 111, 114, 46, 114, 109] A B C (.ofNat 1) I = ef51 A B C I := by kernel_rfl
theorem er_1_cmp_rm_1 : go9 1 [99, 109, 112, 46, 114, 109] A B C (.ofNat 1) I = ef51 A B C I := by kernel_rfl
theorem er_1_movl_rm_0 : go9 1 [109, 111, 118, 108, 46, 114, 109] A B C (.ofNat 0) I = ef52 A B C I := by kernel_rfl
theorem er_1_movl_rm_4 : go9 1 [109, 111, 118, 108, 46, 114, 109] A B C (.ofNat 4) I = ef53 A B C I := by kernel_rfl
theorem er_1_movl_mr_4 : go9 1 [109, 111, 118, 108, 46, 109, 114] A B C (.ofNat 4) I = ef53 A B C I := by kernel_rfl
theorem er_1_movsl_rmE : go9e 1 [109, 111, 118, 115, 108, 46, 114, 109] A B C D I = efE A B C D I := by kernel_rfl
theorem er_1_movl_mrE : go9e 1 [109, 111, 118, 108, 46, 109, 114] A B C D I = efE A B C D I := by kernel_rfl
theorem er_1_and_rmE : go9e 1 [97, 110, 100, 46, 114, 109] A B C D I = efE A B C D I := by kernel_rfl
end
end Go.Proofs.YtlclahpapabkdaaGreatDoor
