/- Encode of instructions by their names. -/
import Derived.Test.YtlclahpapabkdaaGreatDoorTxF
import Derived.Test.YtlclahpapabkdaaGreatDoorTxE
import Derived.KernelRfl
namespace Go.Proofs.YtlclahpapabkdaaGreatDoor
open Go Go.Vai
noncomputable section
set_option maxRecDepth 100000
variable (A B C D I : Int)
theorem er_1_or_rr : go9 1 [111, 114, 46, 114, 114] A B C D I = ef0 A B C D I := by kernel_rfl
theorem er_1_cmp_rr : go9 1 [99, 109, 112, 46, 114, 114] A B C D I = ef0 A B C D I := by kernel_rfl
theorem er_1_mov_rs : go9 1 [109, 111, 118, 46, 114, 115] A B C D I = ef1 2147483647 A B C D I := by kernel_rfl
theorem er_1_and_ri : go9 1 [97, 110, 100, 46, 114, 105] A B C D I = ef2 A B C D I := by kernel_rfl
theorem er_1_not : go9 1 [110, 111, 116] A B C D I = ef3 A B C D I := by kernel_rfl
theorem er_1_idiv : go9 1 [105, 100, 105, 118] A B C D I = ef3 A B C D I := by kernel_rfl
theorem er_1_cqo : go9 1 [99, 113, 111] A B C D I = ef4 A B C D I := by kernel_rfl
theorem er_1_ud2 : go9 1 [117, 100, 50] A B C D I = ef4 A B C D I := by kernel_rfl
theorem er_1_cmov : go9 1 [99, 109, 111, 118] A B C D I = ef6 A B C D I := by kernel_rfl
theorem er_1_jmp : go9 1 [106, 109, 112] A B C D I = ef8 2147483647 A B C D I := by kernel_rfl
theorem er_1_jcc : go9 1 [106, 99, 99] A B C D I = ef10 2147483647 A B C D I := by kernel_rfl
theorem er_2_movk : go9 2 [109, 111, 118, 107] A B C D I = ef11 4068474880 A B C D I := by kernel_rfl
theorem er_2_subs_i : go9 2 [115, 117, 98, 115, 46, 105] A B C D I = ef12 4043309056 A B C D I := by kernel_rfl
theorem er_2_subs : go9 2 [115, 117, 98, 115] A B C D I = ef13 31 63 3942645760 63 10 A B C D I := by kernel_rfl
theorem er_2_ands : go9 2 [97, 110, 100, 115] A B C D I = ef13 31 63 3925868544 63 10 A B C D I := by kernel_rfl
theorem er_2_ubfm : go9 2 [117, 98, 102, 109] A B C D I = ef13 63 63 3544186880 63 10 A B C D I := by kernel_rfl
theorem er_2_orr_i : go9 2 [111, 114, 114, 46, 105] A B C D I = ef14 2986344448 A B C D I := by kernel_rfl
theorem er_2_sdiv : go9 2 [115, 100, 105, 118] A B C D I = ef15 2596277248 A B C D I := by kernel_rfl
theorem er_2_adr : go9 2 [97, 100, 114] A B C D I = ef16 1048575 1 268435456 A B C D I := by kernel_rfl
theorem er_2_ldrb : go9 2 [108, 100, 114, 98] A B C D I = ef17 4095 1 960495616 A B C D I := by kernel_rfl
theorem er_2_ldr_w : go9 2 [108, 100, 114, 46, 119] A B C D I = ef17 16380 4 3107979264 A B C D I := by kernel_rfl
theorem er_2_str : go9 2 [115, 116, 114] A B C D I = ef17 32760 8 4177526784 A B C D I := by kernel_rfl
theorem er_2_bl : go9 2 [98, 108] A B C D I = ef19 A B C D I := by kernel_rfl
theorem er_2_ret : go9 2 [114, 101, 116] A B C D I = ef21 3596550144 A B C D I := by kernel_rfl
theorem er_3_add : go9 3 [97, 100, 100] A B C D I = ef24 51 A B C D I := by kernel_rfl
theorem er_3_sltu : go9 3 [115, 108, 116, 117] A B C D I = ef24 12339 A B C D I := by kernel_rfl
theorem er_3_or : go9 3 [111, 114] A B C D I = ef24 24627 A B C D I := by kernel_rfl
theorem er_3_mulhsu : go9 3 [109, 117, 108, 104, 115, 117] A B C D I = ef24 33562675 A B C D I := by kernel_rfl
theorem er_3_rem : go9 3 [114, 101, 109] A B C D I = ef24 33579059 A B C D I := by kernel_rfl
theorem er_3_sllw : go9 3 [115, 108, 108, 119] A B C D I = ef24 4155 A B C D I := by kernel_rfl
theorem er_3_divw : go9 3 [100, 105, 118, 119] A B C D I = ef24 33570875 A B C D I := by kernel_rfl
theorem er_3_addi : go9 3 [97, 100, 100, 105] A B C D I = ef25 19 A B C D I := by kernel_rfl
theorem er_3_ori : go9 3 [111, 114, 105] A B C D I = ef25 24595 A B C D I := by kernel_rfl
theorem er_3_lh : go9 3 [108, 104] A B C D I = ef25 4099 A B C D I := by kernel_rfl
theorem er_3_lhu : go9 3 [108, 104, 117] A B C D I = ef25 20483 A B C D I := by kernel_rfl
theorem er_3_srli : go9 3 [115, 114, 108, 105] A B C D I = ef26 63 20499 A B C D I := by kernel_rfl
theorem er_3_sraiw : go9 3 [115, 114, 97, 105, 119] A B C D I = ef26 31 1073762331 A B C D I := by kernel_rfl
theorem er_3_sd : go9 3 [115, 100] A B C D I = ef27 2047 2047 1 12323 A B C D I := by kernel_rfl
theorem er_3_bge : go9 3 [98, 103, 101] A B C D I = ef27 4095 4094 2 20579 A B C D I := by kernel_rfl
theorem er_3_auipc : go9 3 [97, 117, 105, 112, 99] A B C D I = ef28 524287 524287 1 23 A B C D I := by kernel_rfl
theorem er_3_c_addi4spn : go9 3 [99, 46, 97, 100, 100, 105, 52, 115, 112, 110] A B C D I = ef30 A B C D I := by kernel_rfl
theorem er_3_c_sd : go9 3 [99, 46, 115, 100] A B C D I = ef34 A B C D I := by kernel_rfl
theorem er_3_c_addiw : go9 3 [99, 46, 97, 100, 100, 105, 119] A B C D I = ef37 2 A B C D I := by kernel_rfl
theorem er_3_c_srli : go9 3 [99, 46, 115, 114, 108, 105] A B C D I = ef40 0 A B C D I := by kernel_rfl
theorem er_3_c_xor : go9 3 [99, 46, 120, 111, 114] A B C D I = ef42 280 1 A B C D I := by kernel_rfl
theorem er_3_c_addw : go9 3 [99, 46, 97, 100, 100, 119] A B C D I = ef42 312 1 A B C D I := by kernel_rfl
theorem er_3_c_slli : go9 3 [99, 46, 115, 108, 108, 105] A B C D I = ef45 A B C D I := by kernel_rfl
theorem er_3_c_jalr : go9 3 [99, 46, 106, 97, 108, 114] A B C D I = ef47 288 A B C D I := by kernel_rfl
theorem er_3_c_sdsp : go9 3 [99, 46, 115, 100, 115, 112] A B C D I = ef49 504 8 56 3 7 7 A B C D I := by kernel_rfl
theorem er_1_lea_0 : go9 1 [108, 101, 97] A B C (.ofNat 0) I = ef50 A B C I := by kernel_rfl
theorem er_1_or_rm_0 : go9 1 [111, 114, 46, 114, 109] A B C (.ofNat 0) I = ef50 A B C I := by kernel_rfl
theorem er_1_cmp_rm_0 : go9 1 [99, 109, 112, 46, 114, 109] A B C (.ofNat 0) I = ef50 A B C I := by kernel_rfl
theorem er_1_mov_rm_8 : go9 1 [109, 111, 118, 46, 114, 109] A B C (.ofNat 8) I = ef51 A B C I := by kernel_rfl
theorem er_1_movsl_rm_8 : go9 1 [109, 111, 118, 115, 108, 46, 114, 109] A B C (.ofNat 8) I = ef51 A B C I := by kernel_rfl
theorem er_1_movzb_rm_8 : go9 1 [109, 111, 118, 122, 98, 46, 114, 109] A B C (.ofNat 8) I = ef51 A B C I := by kernel_rfl
theorem er_1_lea_8 : go9 1 [108, 101, 97] A B C (.ofNat 8) I = ef51 A B C I := by kernel_rfl
theorem er_1_mov_mr_8 : go9 1 [109, 111, 118, 46, 109, 114] A B C (.ofNat 8) I = ef51 A B C I := by kernel_rfl
theorem er_1_movb_mr_8 : go9 1 [109, 111, 118, 98, 46, 109, 114] A B C (.ofNat 8) I = ef51 A B C I := by kernel_rfl
theorem er_1_add_rm_8 : go9 1 [97, 100, 100, 46, 114, 109] A B C (.ofNat 8) I = ef51 A B C I := by kernel_rfl
theorem er_1_or_rm_8 : go9 1 [111, 114, 46, 114, 109] A B C (.ofNat 8) I = ef51 A B C I := by kernel_rfl
theorem er_1_and_rm_8 : go9 1 [97, 110, 100, 46, 114, 109] A B C (.ofNat 8) I = ef51 A B C I := by kernel_rfl
theorem er_1_sub_rm_8 : go9 1 [115, 117, 98, 46, 114, 109] A B C (.ofNat 8) I = ef51 A B C I := by kernel_rfl
theorem er_1_xor_rm_8 : go9 1 [120, 111, 114, 46, 114, 109] A B C (.ofNat 8) I = ef51 A B C I := by kernel_rfl
theorem er_1_cmp_rm_8 : go9 1 [99, 109, 112, 46, 114, 109] A B C (.ofNat 8) I = ef51 A B C I := by kernel_rfl
theorem er_1_movl_rm_2 : go9 1 [109, 111, 118, 108, 46, 114, 109] A B C (.ofNat 2) I = ef53 A B C I := by kernel_rfl
theorem er_1_movl_mr_2 : go9 1 [109, 111, 118, 108, 46, 109, 114] A B C (.ofNat 2) I = ef53 A B C I := by kernel_rfl
theorem er_1_movl_rmE : go9e 1 [109, 111, 118, 108, 46, 114, 109] A B C D I = efE A B C D I := by kernel_rfl
theorem er_1_mov_mrE : go9e 1 [109, 111, 118, 46, 109, 114] A B C D I = efE A B C D I := by kernel_rfl
theorem er_1_or_rmE : go9e 1 [111, 114, 46, 114, 109] A B C D I = efE A B C D I := by kernel_rfl
theorem er_1_cmp_rmE : go9e 1 [99, 109, 112, 46, 114, 109] A B C D I = efE A B C D I := by kernel_rfl
end
end Go.Proofs.YtlclahpapabkdaaGreatDoor
