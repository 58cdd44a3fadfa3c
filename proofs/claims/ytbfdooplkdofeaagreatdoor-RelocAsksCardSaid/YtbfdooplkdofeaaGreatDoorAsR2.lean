/- Encode and Check of instructions by their names, at Imm 0. -/
import Derived.Test.YtbfdooplkdofeaaGreatDoorAsF
import Derived.Test.YtbfdooplkdofeaaGreatDoorAsE
import Derived.KernelRfl
namespace Go.Proofs.YtbfdooplkdofeaaGreatDoor
open Go Go.Vai
noncomputable section
set_option maxRecDepth 100000
variable (A B C D : Int)
theorem e1_or_rr : go9 1 [111, 114, 46, 114, 114] A B C D = ef0 A B C D := by kernel_rfl
theorem e1_cmp_rr : go9 1 [99, 109, 112, 46, 114, 114] A B C D = ef0 A B C D := by kernel_rfl
theorem e1_mov_rs : go9 1 [109, 111, 118, 46, 114, 115] A B C D = ef1 A B C D := by kernel_rfl
theorem e1_and_ri : go9 1 [97, 110, 100, 46, 114, 105] A B C D = ef1 A B C D := by kernel_rfl
theorem e1_not : go9 1 [110, 111, 116] A B C D = ef1 A B C D := by kernel_rfl
theorem e1_idiv : go9 1 [105, 100, 105, 118] A B C D = ef1 A B C D := by kernel_rfl
theorem e1_shl_rc : go9 1 [115, 104, 108, 46, 114, 99] A B C D = ef1 A B C D := by kernel_rfl
theorem e1_call : go9 1 [99, 97, 108, 108] A B C D = ef2 A B C D := by kernel_rfl
theorem e1_syscall : go9 1 [115, 121, 115, 99, 97, 108, 108] A B C D = ef2 A B C D := by kernel_rfl
theorem e1_push : go9 1 [112, 117, 115, 104] A B C D = ef4 A B C D := by kernel_rfl
theorem e1_jcc : go9 1 [106, 99, 99] A B C D = ef6 A B C D := by kernel_rfl
theorem e2_movk : go9 2 [109, 111, 118, 107] A B C D = ef7 4068474880 A B C D := by kernel_rfl
theorem e2_subs_i : go9 2 [115, 117, 98, 115, 46, 105] A B C D = ef8 4043309056 A B C D := by kernel_rfl
theorem e2_subs : go9 2 [115, 117, 98, 115] A B C D = ef9 31 63 3942645760 63 10 A B C D := by kernel_rfl
theorem e2_ands : go9 2 [97, 110, 100, 115] A B C D = ef9 31 63 3925868544 63 10 A B C D := by kernel_rfl
theorem e2_ubfm : go9 2 [117, 98, 102, 109] A B C D = ef9 63 63 3544186880 63 10 A B C D := by kernel_rfl
theorem e2_orr_i : go9 2 [111, 114, 114, 46, 105] A B C D = ef10 A B C D := by kernel_rfl
theorem e2_sdiv : go9 2 [115, 100, 105, 118] A B C D = ef11 2596277248 16 A B C D := by kernel_rfl
theorem e2_ldp : go9 2 [108, 100, 112] A B C D = ef11 2839543808 10 A B C D := by kernel_rfl
theorem e2_cbz : go9 2 [99, 98, 122] A B C D = ef12 3019898880 A B C D := by kernel_rfl
theorem e2_ldrh : go9 2 [108, 100, 114, 104] A B C D = ef13 2034237440 A B C D := by kernel_rfl
theorem e2_ldrsw : go9 2 [108, 100, 114, 115, 119] A B C D = ef13 3112173568 A B C D := by kernel_rfl
theorem e2_bl : go9 2 [98, 108] A B C D = ef14 A B C D := by kernel_rfl
theorem e2_b_c : go9 2 [98, 46, 99] A B C D = ef15 A B C D := by kernel_rfl
theorem e3_add : go9 3 [97, 100, 100] A B C D = ef17 51 A B C D := by kernel_rfl
theorem e3_sltu : go9 3 [115, 108, 116, 117] A B C D = ef17 12339 A B C D := by kernel_rfl
theorem e3_or : go9 3 [111, 114] A B C D = ef17 24627 A B C D := by kernel_rfl
theorem e3_mulhsu : go9 3 [109, 117, 108, 104, 115, 117] A B C D = ef17 33562675 A B C D := by kernel_rfl
theorem e3_rem : go9 3 [114, 101, 109] A B C D = ef17 33579059 A B C D := by kernel_rfl
theorem e3_sllw : go9 3 [115, 108, 108, 119] A B C D = ef17 4155 A B C D := by kernel_rfl
theorem e3_divw : go9 3 [100, 105, 118, 119] A B C D = ef17 33570875 A B C D := by kernel_rfl
theorem e3_addi : go9 3 [97, 100, 100, 105] A B C D = ef18 19 A B C D := by kernel_rfl
theorem e3_ori : go9 3 [111, 114, 105] A B C D = ef18 24595 A B C D := by kernel_rfl
theorem e3_lh : go9 3 [108, 104] A B C D = ef18 4099 A B C D := by kernel_rfl
theorem e3_lhu : go9 3 [108, 104, 117] A B C D = ef18 20483 A B C D := by kernel_rfl
theorem e3_srli : go9 3 [115, 114, 108, 105] A B C D = ef18 20499 A B C D := by kernel_rfl
theorem e3_sraiw : go9 3 [115, 114, 97, 105, 119] A B C D = ef18 1073762331 A B C D := by kernel_rfl
theorem e3_sd : go9 3 [115, 100] A B C D = ef19 12323 A B C D := by kernel_rfl
theorem e3_bge : go9 3 [98, 103, 101] A B C D = ef19 20579 A B C D := by kernel_rfl
theorem e3_auipc : go9 3 [97, 117, 105, 112, 99] A B C D = ef20 23 A B C D := by kernel_rfl
theorem e3_c_addi4spn : go9 3 [99, 46, 97, 100, 100, 105, 52, 115, 112, 110] A B C D = ef22 A B C D := by kernel_rfl
theorem e3_c_ld : go9 3 [99, 46, 108, 100] A B C D = ef24 A B C D := by kernel_rfl
theorem e3_c_addi16sp : go9 3 [99, 46, 97, 100, 100, 105, 49, 54, 115, 112] A B C D = ef27 3 A B C D := by kernel_rfl
theorem e3_c_slli : go9 3 [99, 46, 115, 108, 108, 105] A B C D = ef28 A B C D := by kernel_rfl
theorem e3_c_andi : go9 3 [99, 46, 97, 110, 100, 105] A B C D = ef31 A B C D := by kernel_rfl
theorem e3_c_and : go9 3 [99, 46, 97, 110, 100] A B C D = ef32 280 3 A B C D := by kernel_rfl
theorem e3_c_bnez : go9 3 [99, 46, 98, 110, 101, 122] A B C D = ef33 448 A B C D := by kernel_rfl
theorem e3_c_jalr : go9 3 [99, 46, 106, 97, 108, 114] A B C D = ef35 288 A B C D := by kernel_rfl
theorem e3_c_sdsp : go9 3 [99, 46, 115, 100, 115, 112] A B C D = ef37 14336 A B C D := by kernel_rfl
theorem m1_lea_0 : go9 1 [108, 101, 97] A B C (.ofNat 0) = ef38 A B C := by kernel_rfl
theorem m1_or_rm_0 : go9 1 [111, 114, 46, 114, 109] A B C (.ofNat 0) = ef38 A B C := by kernel_rfl
theorem m1_cmp_rm_0 : go9 1 [99, 109, 112, 46, 114, 109] A B C (.ofNat 0) = ef38 A B C := by kernel_rfl
theorem m1_mov_rm_8 : go9 1 [109, 111, 118, 46, 114, 109] A B C (.ofNat 8) = ef39 A B C := by kernel_rfl
theorem m1_movsl_rm_8 : go9 1 [109, 111, 118, 115, 108, 46, 114, 109] A B C (.ofNat 8) = ef39 A B C := by kernel_rfl
theorem m1_movzb_rm_8 : go9 1 [109, 111, 118, 122, 98, 46, 114, 109] A B C (.ofNat 8) = ef39 A B C := by kernel_rfl
theorem m1_lea_8 : go9 1 [108, 101, 97] A B C (.ofNat 8) = ef39 A B C := by kernel_rfl
theorem m1_mov_mr_8 : go9 1 [109, 111, 118, 46, 109, 114] A B C (.ofNat 8) = ef39 A B C := by kernel_rfl
theorem m1_movb_mr_8 : go9 1 [109, 111, 118, 98, 46, 109, 114] A B C (.ofNat 8) = ef39 A B C := by kernel_rfl
theorem m1_add_rm_8 : go9 1 [97, 100, 100, 46, 114, 109] A B C (.ofNat 8) = ef39 A B C := by kernel_rfl
theorem m1_or_rm_8 : go9 1 [111, 114, 46, 114, 109] A B C (.ofNat 8) = ef39 A B C := by kernel_rfl
theorem m1_and_rm_8 : go9 1 [97, 110, 100, 46, 114, 109] A B C (.ofNat 8) = ef39 A B C := by kernel_rfl
theorem m1_sub_rm_8 : go9 1 [115, 117, 98, 46, 114, 109] A B C (.ofNat 8) = ef39 A B C := by kernel_rfl
theorem m1_xor_rm_8 : go9 1 [120, 111, 114, 46, 114, 109] A B C (.ofNat 8) = ef39 A B C := by kernel_rfl
theorem m1_cmp_rm_8 : go9 1 [99, 109, 112, 46, 114, 109] A B C (.ofNat 8) = ef39 A B C := by kernel_rfl
theorem m1_movl_rm_2 : go9 1 [109, 111, 118, 108, 46, 114, 109] A B C (.ofNat 2) = ef41 A B C := by kernel_rfl
theorem m1_movl_mr_2 : go9 1 [109, 111, 118, 108, 46, 109, 114] A B C (.ofNat 2) = ef41 A B C := by kernel_rfl
theorem c1_add_rr : goc 1 [97, 100, 100, 46, 114, 114] A B C D = ef42 A B C D := by kernel_rfl
theorem c1_xor_rr : goc 1 [120, 111, 114, 46, 114, 114] A B C D = ef42 A B C D := by kernel_rfl
theorem c1_mov_ri : goc 1 [109, 111, 118, 46, 114, 105] A B C D = ef43 A B C D := by kernel_rfl
theorem c1_or_ri : goc 1 [111, 114, 46, 114, 105] A B C D = ef43 A B C D := by kernel_rfl
theorem c1_cmp_ri : goc 1 [99, 109, 112, 46, 114, 105] A B C D = ef43 A B C D := by kernel_rfl
theorem c1_div : goc 1 [100, 105, 118] A B C D = ef43 A B C D := by kernel_rfl
theorem c1_sar_ri : goc 1 [115, 97, 114, 46, 114, 105] A B C D = ef43 A B C D := by kernel_rfl
theorem c1_push : goc 1 [112, 117, 115, 104] A B C D = ef43 A B C D := by kernel_rfl
theorem c1_mov_rm : goc 1 [109, 111, 118, 46, 114, 109] A B C D = ef44 A B C D := by kernel_rfl
theorem c1_lea : goc 1 [108, 101, 97] A B C D = ef44 A B C D := by kernel_rfl
theorem c1_add_rm : goc 1 [97, 100, 100, 46, 114, 109] A B C D = ef44 A B C D := by kernel_rfl
theorem c1_xor_rm : goc 1 [120, 111, 114, 46, 114, 109] A B C D = ef44 A B C D := by kernel_rfl
theorem c1_jmp : goc 1 [106, 109, 112] A B C D = ef45 A B C D := by kernel_rfl
theorem c1_nop : goc 1 [110, 111, 112] A B C D = ef45 A B C D := by kernel_rfl
theorem c1_jcc_s : goc 1 [106, 99, 99, 46, 115] A B C D = ef47 A B C D := by kernel_rfl
theorem c2_add_i : goc 2 [97, 100, 100, 46, 105] A B C D = ef49 A B C D := by kernel_rfl
theorem c2_add : goc 2 [97, 100, 100] A B C D = ef50 63 A B C D := by kernel_rfl
theorem c2_and : goc 2 [97, 110, 100] A B C D = ef50 63 A B C D := by kernel_rfl
theorem c2_madd : goc 2 [109, 97, 100, 100] A B C D = ef50 31 A B C D := by kernel_rfl
theorem c2_and_i : goc 2 [97, 110, 100, 46, 105] A B C D = ef51 3 A B C D := by kernel_rfl
theorem c2_ldrb : goc 2 [108, 100, 114, 98] A B C D = ef51 0 A B C D := by kernel_rfl
theorem c2_ldr_w : goc 2 [108, 100, 114, 46, 119] A B C D = ef51 0 A B C D := by kernel_rfl
theorem c2_str : goc 2 [115, 116, 114] A B C D = ef51 0 A B C D := by kernel_rfl
theorem c2_lsrv : goc 2 [108, 115, 114, 118] A B C D = ef52 A B C D := by kernel_rfl
theorem c2_sbfm : goc 2 [115, 98, 102, 109] A B C D = ef53 A B C D := by kernel_rfl
theorem c2_cbz : goc 2 [99, 98, 122] A B C D = ef54 A B C D := by kernel_rfl
theorem c2_svc : goc 2 [115, 118, 99] A B C D = ef55 A B C D := by kernel_rfl
theorem c2_br : goc 2 [98, 114] A B C D = ef57 A B C D := by kernel_rfl
theorem c3_sub : goc 3 [115, 117, 98] A B C D = ef58 A B C D := by kernel_rfl
theorem c3_xor : goc 3 [120, 111, 114] A B C D = ef58 A B C D := by kernel_rfl
theorem c3_and : goc 3 [97, 110, 100] A B C D = ef58 A B C D := by kernel_rfl
theorem c3_mulhu : goc 3 [109, 117, 108, 104, 117] A B C D = ef58 A B C D := by kernel_rfl
theorem c3_remu : goc 3 [114, 101, 109, 117] A B C D = ef58 A B C D := by kernel_rfl
theorem c3_srlw : goc 3 [115, 114, 108, 119] A B C D = ef58 A B C D := by kernel_rfl
theorem c3_divuw : goc 3 [100, 105, 118, 117, 119] A B C D = ef58 A B C D := by kernel_rfl
theorem c3_slti : goc 3 [115, 108, 116, 105] A B C D = ef59 0 31 A B C D := by kernel_rfl
theorem c3_andi : goc 3 [97, 110, 100, 105] A B C D = ef59 0 31 A B C D := by kernel_rfl
theorem c3_lw : goc 3 [108, 119] A B C D = ef59 0 31 A B C D := by kernel_rfl
theorem c3_lwu : goc 3 [108, 119, 117] A B C D = ef59 0 31 A B C D := by kernel_rfl
theorem c3_srai : goc 3 [115, 114, 97, 105] A B C D = ef59 0 31 A B C D := by kernel_rfl
theorem c3_c_lw : goc 3 [99, 46, 108, 119] A B C D = ef59 8 15 A B C D := by kernel_rfl
theorem c3_sw : goc 3 [115, 119] A B C D = ef60 0 31 A B C D := by kernel_rfl
theorem c3_blt : goc 3 [98, 108, 116] A B C D = ef60 0 31 A B C D := by kernel_rfl
theorem c3_c_sw : goc 3 [99, 46, 115, 119] A B C D = ef60 8 15 A B C D := by kernel_rfl
theorem c3_jal : goc 3 [106, 97, 108] A B C D = ef61 0 31 0 A B C D := by kernel_rfl
theorem c3_c_andi : goc 3 [99, 46, 97, 110, 100, 105] A B C D = ef61 8 15 0 A B C D := by kernel_rfl
theorem c3_c_addi16sp : goc 3 [99, 46, 97, 100, 100, 105, 49, 54, 115, 112] A B C D = ef62 3 A B C D := by kernel_rfl
theorem c3_c_addiw : goc 3 [99, 46, 97, 100, 100, 105, 119] A B C D = ef63 0 A B C D := by kernel_rfl
theorem c3_c_ldsp : goc 3 [99, 46, 108, 100, 115, 112] A B C D = ef63 0 A B C D := by kernel_rfl
theorem c3_c_or : goc 3 [99, 46, 111, 114] A B C D = ef65 A B C D := by kernel_rfl
theorem c3_c_beqz : goc 3 [99, 46, 98, 101, 113, 122] A B C D = ef66 A B C D := by kernel_rfl
theorem c3_c_mv : goc 3 [99, 46, 109, 118] A B C D = ef68 A B C D := by kernel_rfl
theorem r1_mov_rm_0 : gor [109, 111, 118, 46, 114, 109] A B C (.ofNat 0) = ef70 A B C := by kernel_rfl
theorem r1_mov_mr_0 : gor [109, 111, 118, 46, 109, 114] A B C (.ofNat 0) = ef70 A B C := by kernel_rfl
theorem r1_and_rm_0 : gor [97, 110, 100, 46, 114, 109] A B C (.ofNat 0) = ef70 A B C := by kernel_rfl
theorem r1_mov_rm_1 : gor [109, 111, 118, 46, 114, 109] A B C (.ofNat 1) = ef71 A B C := by kernel_rfl
theorem r1_movsl_rm_1 : gor [109, 111, 118, 115, 108, 46, 114, 109] A B C (.ofNat 1) = ef71 A B C := by kernel_rfl
theorem r1_movzb_rm_1 : gor [109, 111, 118, 122, 98, 46, 114, 109] A B C (.ofNat 1) = ef71 A B C := by kernel_rfl
theorem r1_lea_1 : gor [108, 101, 97] A B C (.ofNat 1) = ef71 A B C := by kernel_rfl
theorem r1_mov_mr_1 : gor [109, 111, 118, 46, 109, 114] A B C (.ofNat 1) = ef71 A B C := by kernel_rfl
theorem r1_movb_mr_1 : gor [109, 111, 118, 98, 46, 109, 114] A B C (.ofNat 1) = ef71 A B C := by kernel_rfl
theorem r1_add_rm_1 : gor [97, 100, 100, 46, 114, 109] A B C (.ofNat 1) = ef71 A B C := by kernel_rfl
theorem r1_or_rm_1 : gor [111, 114, 46, 114, 109] A B C (.ofNat 1) = ef71 A B C := by kernel_rfl
theorem r1_and_rm_1 : gor [97, 110, 100, 46, 114, 109] A B C (.ofNat 1) = ef71 A B C := by kernel_rfl
theorem r1_sub_rm_1 : gor [115, 117, 98, 46, 114, 109] A B C (.ofNat 1) = ef71 A B C := by kernel_rfl
theorem r1_xor_rm_1 : gor [120, 111, 114, 46, 114, 109] A B C (.ofNat 1) = ef71 A B C := by kernel_rfl
theorem r1_cmp_rm_1 : gor [99, 109, 112, 46, 114, 109] A B C (.ofNat 1) = ef71 A B C := by kernel_rfl
theorem r1_movl_rm_0 : gor [109, 111, 118, 108, 46, 114, 109] A B C (.ofNat 0) = ef72 A B C := by kernel_rfl
theorem r1_movl_rm_4 : gor [109, 111, 118, 108, 46, 114, 109] A B C (.ofNat 4) = ef73 A B C := by kernel_rfl
theorem r1_movl_mr_4 : gor [109, 111, 118, 108, 46, 109, 114] A B C (.ofNat 4) = ef73 A B C := by kernel_rfl
theorem l1_movsl_rm : go9e 1 [109, 111, 118, 115, 108, 46, 114, 109] A B C D = efE0 A B C D := by kernel_rfl
theorem l1_movl_mr : go9e 1 [109, 111, 118, 108, 46, 109, 114] A B C D = efE0 A B C D := by kernel_rfl
theorem l1_and_rm : go9e 1 [97, 110, 100, 46, 114, 109] A B C D = efE0 A B C D := by kernel_rfl
theorem w1_mov_rm : gore [109, 111, 118, 46, 114, 109] A B C D = efR0 A B C D := by kernel_rfl
theorem w1_lea : gore [108, 101, 97] A B C D = efR0 A B C D := by kernel_rfl
theorem w1_add_rm : gore [97, 100, 100, 46, 114, 109] A B C D = efR0 A B C D := by kernel_rfl
theorem w1_xor_rm : gore [120, 111, 114, 46, 114, 109] A B C D = efR0 A B C D := by kernel_rfl
end
end Go.Proofs.YtbfdooplkdofeaaGreatDoor
